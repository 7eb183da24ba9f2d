/- Part of the proof of KernelChoice: layer. -/
import Derived.Test.YtobcafblgapgfaaGreatDoorL7
set_option linter.all false
namespace Go.ky
open Go Go.fg
def xF(P:Program)(t:TypeId)(s x:AV)(d:Nat)(K:Fr->cV->Prop)(fr:Fr)(H:cV):Prop:=
 match nM P t,s,x with
 |some (_,sz),.slice tag l,.slice _ m=>
  kg sz l=true/\kg sz m=true/\l.length+m.length<=kM/\(if mj fr tag l=true then K (grown fr d tag l m) H else m=[]/\K (fr.put (some d) (.slice .eh l)) H)
 |_,_,_=>False
def C8{P:Program}{T:dA}{x y:Operand}{t d:Nat}{K:Fr->cV->Prop}{fr:Fr}{H:cV}:lk P T {callee:=.builtin .append,args:=#[x,y],argTypes:=#[t,t]} (some d) K fr H=xF P t (ev T fr x) (ev T fr y) d K fr H:=by
 unfold lk xF;simp only;cases nM P t with
 |none=>rfl|some p=>
  obtain⟨e,sz⟩:=p;cases ev T fr x<;>cases ev T fr y<;>simp only[Xh]
def PO(P:Program)(t:TypeId)(s x:AV)(d:Nat)(K:Fr->cV->Prop)(fr:Fr)(H:cV):Prop:=
 match nM P t,x with
 |some (e,sz),.slice _ m=>
  kg sz m=true/\(jM P e).isSome=true/\0<m.length/\match s with
  |.slice .full l=>kg sz l=true/\l.length+m.length<=kM/\∀cap,l.length+m.length<=cap->K (vp fr d (l.flatMap AV.cells++m.flatMap AV.cells++Dd ((cap-(l.length+m.length))*sz)) (l.length+m.length) cap) H|.wG b g len cap=>g=fr.gen b/\len+m.length<=kM/\match fr.box b with
   |some cs=>cs.length=cap*sz/\(len+m.length<=cap->K {fr with env:=fF fr.env d (.wG b g (len+m.length) cap),box:=fF fr.box b (some (setCells cs (len*sz) (m.flatMap AV.cells)))} H)/\(∀a,cap<len+m.length->len+m.length<=a->K (vp fr d (cs.take (len*sz)++m.flatMap AV.cells++Dd ((a-(len+m.length))*sz)) (len+m.length) a) H)|none=>False
  |_=>False
 |_,_=>False
def Kw{P:Program}{T:dA}{x y:Operand}{t d:Nat}{K:Fr->cV->Prop}{fr:Fr}{H:cV}:zM P T {callee:=.builtin .append,args:=#[x,y],argTypes:=#[t,t]} (some d) K fr H=PO P t (ev T fr x) (ev T fr y) d K fr H:=by
 unfold zM PO;simp only;cases nM P t with
 |none=>rfl|some p=>
  obtain⟨e,sz⟩:=p;cases ev T fr y<;>simp only[Xh];cases ev T fr x<;>rfl
def uQ(P:Program)(t:TypeId)(s x:AV)(d:Nat)(K:Fr->cV->Prop)(fr:Fr)(H:cV):Prop:=xF P t s x d K fr H\/PO P t s x d K fr H
def G9{P:Program}{T:dA}{x y:Operand}{t d:Nat}{K:Fr->cV->Prop}{fr:Fr}{H:cV}:zK P T {callee:=.builtin .append,args:=#[x,y],argTypes:=#[t,t]} (some d) K fr H=False:=by
 refine propext ⟨λh=>?_,False.elim⟩;unfold zK at h;simp only at h
 split at h
 ·rename_i b a _ _;obtain⟨_,_,hu,_⟩:=mB b;rw[hu] at a;cases a
 ·exact h
def iS(qS:Nat->Option Nat)(ea:Nat->Nat)(D:List Nat)(tag:Tag)(n:Nat):Prop:=
 tag=.full\/∃k g,k∈D/\tag=.loc k g/\g=ea k/\qS k=some n
def iS.full{qS:Nat->Option Nat}{ea:Nat->Nat}{D:List Nat}{n:Nat}:iS qS ea D .full n:=.inl rfl
def iS.new{qS:Nat->Option Nat}{ea:Nat->Nat}{D:List Nat}{n d:Nat}(h:d∈D):iS (fF qS d (some n)) (fF ea d (ea d+1)) D (.loc d (ea d+1)) n:=
 .inr ⟨d,_,h,rfl,by simp[fF],by simp[fF]⟩
def iS.other{qS:Nat->Option Nat}{ea:Nat->Nat}{D D':List Nat}{tag a:Tag}{n n' d:Nat}{x:Option Nat}{y:Nat}(h:iS qS ea D tag n)(j:iS qS ea D' a n')
  (l:∀k,k∈D->k∉D') (f:d∉D):iS (fF (rq a qS) d x) (fF ea d y) D tag n:=by
 rcases h with h|⟨k,g,b,m,o,i⟩
 ·exact .inl h
 ·refine .inr ⟨k,g,b,m,?_,?_⟩
  ·have:k≠d:=by rintro rfl;exact f b
   simp[fF,this,o]
  ·have c:k≠d:=by rintro rfl;exact f b
   simp only[fF,c,lG];rcases j with rfl|⟨k',p,e,rfl,_,_⟩
   ·exact i
   ·have:k≠k':=by rintro rfl;exact l k b e
    simp[rq,fF,this,i]
def iS.can{fr:Fr}{D:List Nat}{tag:Tag}{l:List AV}{n:Nat}(h:iS fr.qS fr.ea D tag n)(hn:n=l.length):mj fr tag l=true:=by
 subst hn;rcases h with rfl|⟨k,g,_,rfl,a,b⟩
 ·rfl
 ·simp[mj,a,b]
def xF.own{P:Program}{t e sz d:Nat}{s x:AV}{K:Fr->cV->Prop}{fr:Fr}{H:cV}{α:Type}{f:α->AV}(l m:List α){D:List Nat}{tag b:Tag}
  (h:iS fr.qS fr.ea D tag l.length) (g:nM P t=some (e,sz)) (i:∀x,(f x).cells.length=sz) (hlen:eC l m=true) (hs:s=.slice tag (l.map f)) (j:x=.slice b (m.map f))
  (k:K {fr with env:=fF fr.env d (.slice (.loc d (fr.ea d+1)) ((fp l m).map f)),qS:=fF (rq tag fr.qS) d (some (fp l m).length),ea:=fF fr.ea d (fr.ea d+1)} H):xF P t s x d K fr H:=by
 subst hs;subst j;have n:=Ni hlen
 have c:∀l:List α,kg sz (l.map f)=true:=λl=>by cases l with|nil=>rfl|cons a l=>simp[kg,i]
 unfold xF;rw[g];refine⟨c l,c m,by simpa[kM,MG] using n,?_⟩;rw[cG (h.can (by simp))]
 have o:l.map f++m.map f=(fp l m).map f:=by simp[fp]
 have p:(l.map f).length+(m.map f).length=(fp l m).length:=by simp[BG]
 unfold grown;rw[o,p];exact k
def uQ.own{P:Program}{t e sz d:Nat}{s x:AV}{K:Fr->cV->Prop}{fr:Fr}{H:cV}{α:Type}{f:α->AV}(l m:List α){D:List Nat}{tag a:Tag}
  (h:iS fr.qS fr.ea D tag l.length) (b:nM P t=some (e,sz)) (c:∀x,(f x).cells.length=sz) (hlen:eC l m=true) (hs:s=.slice tag (l.map f)) (g:x=.slice a (m.map f))
  (i:K {fr with env:=fF fr.env d (.slice (.loc d (fr.ea d+1)) ((fp l m).map f)),qS:=fF (rq tag fr.qS) d (some (fp l m).length),ea:=fF fr.ea d (fr.ea d+1)} H):uQ P t s x d K fr H:=
 .inl (xF.own l m h b c hlen hs g i)
def mb(P:Program)(T:dA)(E:List Nat)(ops:Array Oper)(a:AV)(as:List AV)(d:Option Nat)(rest:List Oper)(K:Fr->cV->Prop)(fr:Fr)(H:cV):Prop:=
 oF P T a as H λr H'=>g' P T E ops rest K (fr.put d r) H'
def y0(P:Program)(T:dA)(E:List Nat)(ops:Array Oper)(q:Bool)(a:AV)(as:List AV)(d:Option Nat)(rest:List Oper)(K:Fr->cV->Prop)(fr:Fr)(H:cV):Prop:=
 ∃r H',nj P T a as H r H'/\(q=true->H'=H)/\pG P T E ops q rest K (fr.put d r) H'
section
variable{P:Program} {T:dA} {E:List Nat} {ops:Array Oper} {q:Bool} {rest:List Oper} {K:Fr->cV->Prop} {fr:Fr} {H H':cV} {d:Option Nat} {ty:TypeId} {pos:String} {after:Array Edge}
def mb.fn{g:FuncId}{as:List AV}{r:AV}(h:dy P T g as H r H')(a:g' P T E ops rest K (fr.put d r) H'):mb P T E ops (.func (.func g) [] []) as d rest K fr H:=by
 unfold mb oF;simp only[mI,xm];exact h.post a
def mb.P6{g:FuncId}{b c as a:List AV}{r:AV}(e:b++as++c=a)(h:dy P T g a H r H')(f:g' P T E ops rest K (fr.put d r) H'):mb P T E ops (.func (.func g) b c) as d rest K fr H:=by
 subst e;unfold mb oF;exact h.post f
def y0.fn{g:FuncId}{as:List AV}{r:AV}(h:dy P T g as H r H')(a:q=true->H'=H)(b:pG P T E ops q rest K (fr.put d r) H'):y0 P T E ops q (.func (.func g) [] []) as d rest K fr H:=by
 refine⟨r,H',?_,a,b⟩;unfold nj oF;simp only[mI,xm];exact h
@[simp] theorem Xb:g' P T E ops [] K fr H=K fr H:=rfl
@[simp] theorem Vl:pG P T E ops q [] K fr H=K fr H:=rfl
@[simp] theorem Vz{x:Operand}:g' P T E ops ({dst:=d,op:=.move x,type:=ty,pos:=pos,after:=after,guard:=none}::rest) K fr H=g' P T E ops rest K (fr.put d (ev T fr x)) H:=rfl
@[simp] theorem Ri{x:Operand}:g' P T E ops ({dst:=d,op:=.assign x,type:=ty,pos:=pos,after:=after,guard:=none}::rest) K fr H=g' P T E ops rest K (fr.put d (ev T fr x)) H:=rfl
@[simp] theorem S5{t:TypeId}:g' P T E ops ({dst:=d,op:=.alloc t,type:=ty,pos:=pos,after:=after,guard:=none}::rest) K fr H=match jM P t with|some z=>jx E d z (g' P T E ops rest K) fr H|none=>False:=rfl
@[simp] theorem WX{t:TypeId}{x:Operand}:g' P T E ops ({dst:=d,op:=.box t x,type:=ty,pos:=pos,after:=after,guard:=none}::rest) K fr H=(ek (ev T fr x)=true/\jx E d (ev T fr x).cells (g' P T E ops rest K) fr H):=rfl
@[simp] theorem U_{t:TypeId}{x:Operand}:g' P T E ops ({dst:=d,op:=.load t x,type:=ty,pos:=pos,after:=after,guard:=none}::rest) K fr H=match tZ P fr H t (ev T fr x)with|some v=>g' P T E ops rest K (fr.put d v) H|none=>False:=rfl
@[simp] theorem TI{t:TypeId}{x y:Operand}:g' P T E ops ({dst:=none,op:=.store t x y,type:=ty,pos:=pos,after:=after,guard:=none}::rest) K fr H=lA P t (ev T fr x) (ev T fr y) (g' P T E ops rest K) fr H:=by simp[g',Ba,p7]
@[simp] theorem M8{t n:Nat}{ps:Array (Nat×Operand)}:g' P T E ops ({dst:=d,op:=.buildSlice t n ps,type:=ty,pos:=pos,after:=after,guard:=none}::rest) K fr H=match k1 P t n (ps.toList.map λp=>(p.1,ev T fr p.2))with|some v=>CJ E d v (g' P T E ops rest K) fr H|none=>False:=rfl
@[simp] theorem V6{E:List Nat}{d:Option Nat}{v:AV}{K:Fr->cV->Prop}{fr:Fr}{H:cV}:CJ E d v K fr H=if d.any E.contains=true then(match v with|.slice _ l=>K (fr.put d (.yx H.length 0 l.length l.length)) (H++[l.flatMap AV.cells])|_=>False)else K (fr.put d v) H:=rfl
@[simp] theorem Rw{x y:Operand}{t d:Nat}:g' P T E ops ({dst:=some d,op:=.call {callee:=.builtin .append,args:=#[x,y],argTypes:=#[t,t]},type:=ty,pos:=pos,after:=after,guard:=none}::rest) K fr H=uQ P t (ev T fr x) (ev T fr y) d (g' P T E ops rest K) fr H:=by
 simp only[g',Ba,p7];unfold uQ;rw[<-C8 (T:=T),<-Kw (T:=T),G9,Oz]
@[simp] theorem Vu{f:Operand}{as:Array Operand}{ts:Array TypeId}:g' P T E ops ({dst:=d,op:=.call {callee:=.value f,args:=as,argTypes:=ts},type:=ty,pos:=pos,after:=after,guard:=none}::rest) K fr H=mb P T E ops (ev T fr f) (as.toList.map λx=>(ev T fr x).norm) d rest K fr H:=rfl
@[simp] theorem Xs{as:Array Operand}{ts:Array TypeId}:g' P T E ops ({dst:=d,op:=.call {callee:=.builtin .len,args:=as,argTypes:=ts},type:=ty,pos:=pos,after:=after,guard:=none}::rest) K fr H=match sN P T fr {callee:=.builtin .len,args:=as,argTypes:=ts}with|some v=>g' P T E ops rest K (fr.put d v) H|none=>False:=rfl
@[simp] theorem WK{as:Array Operand}{ts:Array TypeId}:g' P T E ops ({dst:=d,op:=.call {callee:=.builtin .max,args:=as,argTypes:=ts},type:=ty,pos:=pos,after:=after,guard:=none}::rest) K fr H=match sN P T fr {callee:=.builtin .max,args:=as,argTypes:=ts}with|some v=>g' P T E ops rest K (fr.put d v) H|none=>False:=rfl
@[simp] theorem Vt{c a b:Operand}:g' P T E ops ({dst:=d,op:=.pick c a b,type:=ty,pos:=pos,after:=after,guard:=none}::rest) K fr H=match uH P T fr {dst:=d,op:=.pick c a b,type:=ty,pos:=pos,after:=after,guard:=none}with|some v=>g' P T E ops rest K (fr.put d v) H|none=>False:=rfl
@[simp] theorem Sv{t:TypeId}{ps:Array (Nat×Operand)}:g' P T E ops ({dst:=d,op:=.build t ps,type:=ty,pos:=pos,after:=after,guard:=none}::rest) K fr H=match z' P t (ps.toList.map λp=>(p.1,ev T fr p.2))with|some v=>g' P T E ops rest K (fr.put d v) H|none=>False:=rfl
@[simp] theorem TZ{o:BinOp}{t u:TypeId}{x y:Operand}:g' P T E ops ({dst:=d,op:=.binOp o t x y u,type:=ty,pos:=pos,after:=after,guard:=none}::rest) K fr H=match GO P o t y (ev T fr x) (ev T fr y)with|some v=>g' P T E ops rest K (fr.put d v) H|none=>False:=rfl
@[simp] theorem VF{o:UnOp}{t:TypeId}{x:Operand}:g' P T E ops ({dst:=d,op:=.unOp o t x,type:=ty,pos:=pos,after:=after,guard:=none}::rest) K fr H=match Vp o (ev T fr x)with|some v=>g' P T E ops rest K (fr.put d v) H|none=>False:=rfl
@[simp] theorem PA{fn:Fn}{f c:Array Operand}:g' P T E ops ({dst:=d,op:=.makeFunc fn f c,type:=ty,pos:=pos,after:=after,guard:=none}::rest) K fr H=g' P T E ops rest K (fr.put d (.func fn (f.toList.map λx=>(ev T fr x).norm) (c.toList.map λx=>(ev T fr x).norm))) H:=rfl
@[simp] theorem Ou{t i:Nat}{x:Operand}:g' P T E ops ({dst:=d,op:=.fieldAddr t x i,type:=ty,pos:=pos,after:=after,guard:=none}::rest) K fr H=match oQ P t (ev T fr x) i with|some v=>g' P T E ops rest K (fr.put d v) H|none=>False:=rfl
@[simp] theorem Sc{t i:Nat}{x:Operand}:g' P T E ops ({dst:=d,op:=.field t x i,type:=ty,pos:=pos,after:=after,guard:=none}::rest) K fr H=match Aw P t (ev T fr x) i with|some v=>g' P T E ops rest K (fr.put d v) H|none=>False:=rfl
@[simp] theorem OS{t:TypeId}{x i:Operand}:g' P T E ops ({dst:=d,op:=.indexAddr t x i,type:=ty,pos:=pos,after:=after,guard:=none}::rest) K fr H=match eL P t (ev T fr x) (ev T fr i)with|some v=>g' P T E ops rest K (fr.put d v) H|none=>False:=rfl
@[simp] theorem SE{t:TypeId}{x:Operand}{lo hi a:Option Operand}:g' P T E ops ({dst:=d,op:=.slice t x lo hi a,type:=ty,pos:=pos,after:=after,guard:=none}::rest) K fr H=match mo P t (ev T fr x) (lo.map (ev T fr)) (hi.map (ev T fr)) (a.map (ev T fr))with|some v=>g' P T E ops rest K (fr.put d v) H|none=>False:=rfl
@[simp] theorem QD{i:Nat}{x:Operand}:g' P T E ops ({dst:=d,op:=.extract x i,type:=ty,pos:=pos,after:=after,guard:=none}::rest) K fr H=match uH P T fr {dst:=d,op:=.extract x i,type:=ty,pos:=pos,after:=after,guard:=none}with|some v=>g' P T E ops rest K (fr.put d v) H|none=>False:=rfl
@[simp] theorem PD{x:Operand}:g' P T E ops ({dst:=d,op:=.nilCheck x,type:=ty,pos:=pos,after:=after,guard:=none}::rest) K fr H=match uH P T fr {dst:=d,op:=.nilCheck x,type:=ty,pos:=pos,after:=after,guard:=none}with|some v=>g' P T E ops rest K (fr.put d v) H|none=>False:=rfl
@[simp] theorem Qa{t:TypeId}:g' P T E ops ({dst:=d,op:=.makeMap t none,type:=ty,pos:=pos,after:=after,guard:=none}::rest) K fr H=Di d (g' P T E ops rest K) fr H:=rfl
@[simp] theorem RM{t:TypeId}{x i y:Operand}:g' P T E ops ({dst:=none,op:=.insert t x i y,type:=ty,pos:=pos,after:=after,guard:=none}::rest) K fr H=sO P t (ev T fr x) (ev T fr i) (ev T fr y) (g' P T E ops rest K) fr H:=by simp[g',Ba,p7]
@[simp] theorem Tr{t:TypeId}{x:Operand}:g' P T E ops ({dst:=d,op:=.range t x,type:=ty,pos:=pos,after:=after,guard:=none}::rest) K fr H=GQ P t (ev T fr x) d (g' P T E ops rest K) fr H:=rfl
@[simp] theorem Sp{x:Operand}:g' P T E ops ({dst:=d,op:=.entry x,type:=ty,pos:=pos,after:=after,guard:=none}::rest) K fr H=match Hl (ev T fr x) H with|some v=>g' P T E ops rest K (fr.put d v) H|none=>False:=rfl
@[simp] theorem VV{x:Operand}:g' P T E ops ({dst:=d,op:=.next x false,type:=ty,pos:=pos,after:=after,guard:=none}::rest) K fr H=KS (ev T fr x) d (g' P T E ops rest K) fr H:=rfl
@[simp] theorem Sa{op:Op}{j:Nat}{want:Bool}:g' P T E ops ({dst:=d,op:=op,type:=ty,pos:=pos,after:=after,guard:=some (j,want)}::rest) K fr H=match(ops[j]?).bind (·.dst)with
 |some g=>match fr.env g with
  |.sc (.bool b)=>if b=want then g' P T E ops ({dst:=d,op:=op,type:=ty,pos:=pos,after:=after,guard:=none}::rest) K fr H else g' P T E ops rest K (fr.put d (.tuple [])) H|.tuple _=>g' P T E ops rest K (fr.put d (.tuple [])) H|_=>False
 |none=>False:=rfl
@[simp] theorem SG{x:Operand}:pG P T E ops q ({dst:=d,op:=.move x,type:=ty,pos:=pos,after:=after,guard:=none}::rest) K fr H=pG P T E ops q rest K (fr.put d (ev T fr x)) H:=rfl
@[simp] theorem TC{t:TypeId}{x:Operand}:pG P T E ops q ({dst:=d,op:=.load t x,type:=ty,pos:=pos,after:=after,guard:=none}::rest) K fr H=if oK ops.toList x (ev T fr x)&&(q||!Rg (ev T fr x))then(match tZ P fr H t (ev T fr x)with|some v=>pG P T E ops q rest K (fr.put d v) H|none=>False)else False:=by
 simp only[pG,kP,ig,fD,mN,Ul,X3]
 split
 ·rename_i v a
  split at a
  ·rename_i b;rw[cG b,a]
  ·cases a
 ·rename_i a
  split at a
  ·rename_i b;rw[cG b,a]
  ·rename_i b;rw[cB b]
@[simp] theorem Uw{f:Operand}{as:Array Operand}{ts:Array TypeId}:pG P T E ops q ({dst:=d,op:=.call {callee:=.value f,args:=as,argTypes:=ts},type:=ty,pos:=pos,after:=after,guard:=none}::rest) K fr H=y0 P T E ops q (ev T fr f) (as.toList.map λx=>(ev T fr x).norm) d rest K fr H:=by
 simp only[pG,kP,ig,fD,sE,y0]
@[simp] theorem Rb{o:BinOp}{t u:TypeId}{x y:Operand}:pG P T E ops q ({dst:=d,op:=.binOp o t x y u,type:=ty,pos:=pos,after:=after,guard:=none}::rest) K fr H=match GO P o t y (ev T fr x) (ev T fr y)with|some v=>pG P T E ops q rest K (fr.put d v) H|none=>False:=rfl
@[simp] theorem M9{t i:Nat}{x:Operand}:pG P T E ops q ({dst:=d,op:=.fieldAddr t x i,type:=ty,pos:=pos,after:=after,guard:=none}::rest) K fr H=match oQ P t (ev T fr x) i with|some v=>pG P T E ops q rest K (fr.put d v) H|none=>False:=rfl
@[simp] theorem ON{x:Operand}:pG P T E ops q ({dst:=d,op:=.nilCheck x,type:=ty,pos:=pos,after:=after,guard:=none}::rest) K fr H=match uH P T fr {dst:=d,op:=.nilCheck x,type:=ty,pos:=pos,after:=after,guard:=none}with|some v=>pG P T E ops q rest K (fr.put d v) H|none=>False:=rfl
end
@[simp] theorem Fr.W0(fr:Fr)(d:Nat)(x:AV):fr.put (some d) x={fr with env:=fF fr.env d x}:=rfl
@[simp] theorem YL{α:Type}(f:Nat->α)(i:Nat)(x:α)(j:Nat):fF f i x j=if j=i then x else f j:=rfl
@[simp] theorem Wu(v:Value):AV.cells (.sc v:AV)=[(.sc v:AV)]:=rfl
@[simp] theorem RL(v:Value):ek (.sc v:AV)=true:=rfl
@[simp] theorem Ww(v:Value):AV.jU (.sc v:AV)=(.sc v:AV):=rfl
@[simp] theorem Ys(v:Value):AV.norm (.sc v:AV)=(.sc v:AV):=rfl
@[simp] theorem QV(P:Program)(ty:TypeId)(v:Value):oz P ty (.sc v:AV)=match eB P ty with|some (false,_)=>true|_=>false:=by
 unfold oz;cases eB P ty with
 |none=>rfl|some p=>obtain⟨b,k⟩:=p;cases b<;>rfl
@[simp] theorem Vo(b g o c:Nat):AV.cells (.wG b g o c:AV)=[(.wG b g o c:AV)]:=rfl
@[simp] theorem Qc(b g o c:Nat):ek (.wG b g o c:AV)=true:=rfl
@[simp] theorem Tp(o f:Nat):AV.cells (.ei o f:AV)=[(.ei o f:AV)]:=rfl
@[simp] theorem VJ(o f:Nat):AV.norm (.ei o f:AV)=(.ei o f:AV):=rfl
@[simp] theorem LY(P:Program)(ty:TypeId)(o f:Nat):oz P ty (.ei o f:AV)=match eB P ty with|some (false,_)=>true|_=>false:=by
 unfold oz;cases eB P ty with
 |none=>rfl|some p=>obtain⟨b,k⟩:=p;cases b<;>rfl
@[simp] theorem Ta(o:Nat):AV.cells (.oa o:AV)=[(.oa o:AV)]:=rfl
@[simp] theorem PC(o:Nat):ek (.oa o:AV)=true:=rfl
@[simp] theorem Un(o:Nat):AV.jU (.oa o:AV)=(.oa o:AV):=rfl
@[simp] theorem V5(o:Nat):AV.norm (.oa o:AV)=(.oa o:AV):=rfl
@[simp] theorem VG(o s l c:Nat):AV.cells (.yx o s l c:AV)=[(.yx o s l c:AV)]:=rfl
@[simp] theorem PW(o s l c:Nat):ek (.yx o s l c:AV)=true:=rfl
@[simp] theorem Vv(o s l c:Nat):AV.jU (.yx o s l c:AV)=(.yx o s l c:AV):=rfl
@[simp] theorem VE:vX []=false:=rfl
@[simp] theorem TT(c:AV)(cs:List AV):vX (c::cs)=c.fA:=rfl
@[simp] theorem Yb(v:Value):AV.fA (.sc v)=true:=rfl
@[simp] theorem RA(t:Tag)(l:List AV):AV.fA (.slice t l)=true:=rfl
@[simp] theorem Te(f:Fn)(a c:List AV):AV.fA (.func f a c)=true:=rfl
@[simp] theorem RD(t:Tag)(l:List AV):AV.cells (.slice t l:AV)=[(.slice t l:AV)]:=rfl
@[simp] theorem Of(t:Tag)(l:List AV):ek (.slice t l:AV)=true:=rfl
@[simp] theorem Rf(t:Tag)(l:List AV):AV.jU (.slice t l:AV)=.slice .eh l:=rfl
@[simp] theorem Sx(t:Tag)(l:List AV):AV.norm (.slice t l:AV)=.slice .eh l:=rfl
@[simp] theorem UU(P:Program)(ty:TypeId)(t:Tag)(l:List AV):oz P ty (.slice t l:AV)=match eB P ty with|some (false,_)=>true|_=>false:=by
 unfold oz;cases eB P ty with
 |none=>rfl|some p=>obtain⟨b,k⟩:=p;cases b<;>rfl
@[simp] theorem Wd(cs:List AV):AV.cells (.agg cs:AV)=cs:=rfl
@[simp] theorem Qs(cs:List AV):ek (.agg cs:AV)=true:=rfl
@[simp] theorem Xv(cs:List AV):AV.norm (.agg cs:AV)=.agg (cs.map AV.jU):=rfl
@[simp] theorem sh(P:Program)(ty:TypeId)(cs:List AV):oz P ty (.agg cs)=match eB P ty with|some (true,n)=>cs.length==n|_=>false:=by
 unfold oz;cases eB P ty with
 |none=>rfl|some p=>obtain⟨b,k⟩:=p;cases b<;>rfl
@[simp] theorem R1(f:Fn)(a c:List AV):AV.cells (.func f a c:AV)=[(.func f a c:AV)]:=rfl
@[simp] theorem PH(f:Fn)(a c:List AV):ek (.func f a c:AV)=true:=rfl
@[simp] theorem Sk(f:Fn)(a c:List AV):AV.jU (.func f a c:AV)=(.func f a c:AV):=rfl
@[simp] theorem VN(f:Fn)(a c:List AV):AV.norm (.func f a c:AV)=(.func f a c:AV):=rfl
@[simp] theorem Rj(sz:Nat)(x:AV)(l:List AV):kg sz (x::l)=(x.cells.length==sz):=rfl
def fu(H:cV)(o:Nat)(c:List AV):cV:=H.set o c
@[simp] theorem VQ{H:cV}{o:Nat}{x y:List AV}:fu (fu H o x) o y=fu H o y:=by simp[fu]
section
variable{P:Program} {t:TypeId} {k k':IntKind} {a b:Int} {u v:ByteArray} {p q:Bool}
@[simp] theorem XR{i:Nat}{u v:AV}{op:BinOp}:GO P op t (.tmp i) u v=lX P op t u v:=rfl
@[simp] theorem X1{i:Int}{u v:AV}{op:BinOp}:GO P op t (.const (.int k i)) u v=lX P op t u v:=rfl
@[simp] theorem Wq{i:Option Addr}{u v:AV}{op:BinOp}:GO P op t (.const (.pointer i)) u v=lX P op t u v:=rfl
@[simp] theorem Yf:lX P .add t (.sc (.int k a)) (.sc (.int k b))=some (.sc (.int k (dB k a b))):=by simp[lX,pw,n5,dB]
@[simp] theorem Xx:lX P .sub t (.sc (.int k a)) (.sc (.int k b))=some (.sc (.int k (dX k a b))):=by simp[lX,pw,n5,dX]
@[simp] theorem XU:lX P .mul t (.sc (.int k a)) (.sc (.int k b))=some (.sc (.int k (GL k a b))):=by simp[lX,pw,n5,GL]
@[simp] theorem Xz:lX P .rem t (.sc (.int k a)) (.sc (.int k b))=if FQ b=true then some (.sc (.int k (Ox k a b)))else none:=by
 by_cases h:b=0<;>simp[lX,pw,n5,Ox,FQ,h]
@[simp] theorem XA:lX P .and t (.sc (.int k a)) (.sc (.int k b))=some (.sc (.int k (nI k a b))):=by simp[lX,pw,n5,nI]
@[simp] theorem Yy:lX P .or t (.sc (.int k a)) (.sc (.int k b))=some (.sc (.int k (tO k a b))):=by simp[lX,pw,n5,tO]
@[simp] theorem X5:lX P .shl t (.sc (.int k a)) (.sc (.int k' b))=if Ex b=true then some (.sc (.int k (NM k a b)))else none:=by
 by_cases h:b<0<;>simp[lX,pw,NM,Ex,h]
@[simp] theorem XO:lX P .shr t (.sc (.int k a)) (.sc (.int k' b))=if Ex b=true then some (.sc (.int k (Oj k a b)))else none:=by
 by_cases h:b<0<;>simp[lX,pw,Oj,Ex,h]
@[simp] theorem X':lX P .eql t (.sc (.int k a)) (.sc (.int k b))=some (.sc (.bool (de a b))):=by simp[lX,pw,n5,de]
@[simp] theorem Xw:lX P .neq t (.sc (.int k a)) (.sc (.int k b))=some (.sc (.bool (dr a b))):=by simp[lX,pw,n5,dr]
@[simp] theorem Wx:lX P .lss t (.sc (.int k a)) (.sc (.int k b))=some (.sc (.bool (rv a b))):=by simp[lX,pw,n5,rv]
@[simp] theorem Ya:lX P .leq t (.sc (.int k a)) (.sc (.int k b))=some (.sc (.bool (Gd a b))):=by simp[lX,pw,n5,Gd]
@[simp] theorem XV:lX P .gtr t (.sc (.int k a)) (.sc (.int k b))=some (.sc (.bool (mV a b))):=by simp[lX,pw,n5,mV]
@[simp] theorem Xg:lX P .geq t (.sc (.int k a)) (.sc (.int k b))=some (.sc (.bool (qT a b))):=by simp[lX,pw,n5,qT]
@[simp] theorem YH:Vp .not (.sc (.bool p))=some (.sc (.bool (k4 p))):=by simp[Vp,k4]
@[simp] theorem Vk:KW (.sc (.int k a)) (.sc (.int k' b))=some (.sc (.int k (imax a b))):=rfl
@[simp] theorem WN{α:Type}{f:α->AV}{tag:Tag}{l:List α}:Gi P t (.slice tag (l.map f))=match P.underlying t with|some (.slice _)=>some (.sc (.int .i64 (dm l)))|some (.array n _)=>some (.sc (.int .i64 n))|_=>none:=by
 unfold Gi dm;cases P.underlying t with
 |none=>rfl|some y=>cases y<;>simp
@[simp] theorem Oh{α:Type}{f:α->AV}{tag:Tag}{l:List α}:eL P t (.slice tag (l.map f)) (.sc (.int k a))=match P.underlying t with
  |some (.slice e)=>match c_ l a,eB P e with
   |some x,some (_,sz)=>if(f x).cells.length=sz then some (.kN (f x))else none|_,_=>none
  |_=>none:=by
 unfold eL c_;cases P.underlying t with
 |none=>rfl|some y=>
  cases y<;>try rfl
  rename_i e;simp only[uZ]
  by_cases h:0<=a
  ·rw[cG h,cG h];cases l[a.toNat]?with
   |none=>rfl|some x=>cases eB P e<;>rfl
  ·rw[cB h,cB h]
def DJ{α:Type}{f:α->AV}{L:List α}{n e:Nat}(hu:P.underlying t=some (.array n e))(c:eB P e=some (false,1))(hn:L.length=n):eL P t (.kN (.agg (L.map f))) (.sc (.int k a))=(c_ L a).map λx=>.kN (f x):=by
 unfold eL c_;simp only[hu,c,Nat.mul_one];unfold lO;simp only[c,AV.cells]
 by_cases h:0<=a
 ·rw[cG h]
  by_cases d:a<n
  ·rw[cG ⟨h,d⟩];simp only[uZ];cases L[a.toNat]?<;>rfl
  ·rw[cB (λb=>d b.2),QL (by omega)];rfl
 ·rw[cB h,cB (λb=>h b.1)];rfl
end
attribute [simp] ev ofValue oc xb jx Di tZ lO oQ Aw z' Bb k1 setCells y' FY sN uH
 oK AJ rootOf Rg Yt YR Ej rQ FA
@[simp] theorem Ro{P:Program}{t:TypeId}{b g off:Nat}{v:AV}{K:Fr->cV->Prop}{fr:Fr}{H:cV}:lA P t (.dc b g off) v K fr H=match eB P t with
  |none=>False|some (_,n)=>match fr.box b with
   |some cs=>g=fr.gen b/\v.cells.length=n/\off+n<=cs.length/\ek v=true/\K {fr with box:=fF fr.box b (some (setCells cs off v.cells))} H|none=>False:=by
 unfold lA;cases eB P t with
 |none=>rfl|some p=>rfl
@[simp] theorem Rc{P:Program}{t:TypeId}{o off:Nat}{v:AV}{K:Fr->cV->Prop}{fr:Fr}{H:cV}:lA P t (.ei o off) v K fr H=match eB P t with
  |none=>False|some (_,n)=>match H[o]?with
   |some cs=>vX cs=true/\v.cells.length=n/\off+n<=cs.length/\ek v=true/\K fr (H.set o (setCells cs off v.norm.cells))|none=>False:=by
 unfold lA;cases eB P t with
 |none=>rfl|some p=>rfl
def g_.Rk{P:Program}{T:dA}{n:Nat}{Q:Exit->Fr->cV->Prop}{fr:Fr}{H:cV}{c:Code}(I:Nat->Fr->cV->Prop)(m:Nat)(g:I m fr H)
  (h:∀m fr H,I m fr H->∀K:Fr->cV->Prop,(∀fr' H' a,a<m->I a fr' H'->K fr' H')->g_ P T n c (FA K Q) fr H):g_ P T n (.loop c) Q fr H:=by
 refine g_.loop ?_
 have key:∀k fr H,I k fr H->RW P T n c Q fr H:=by
  intro k
  induction k using Nat.strongRecOn with
  |_ k i=>
   intro fr H j;refine RW.round (g_.mono (h k fr H j (λfr' H'=>∃a,a<k/\I a fr' H') λfr' H' a b d=>⟨a,b,d⟩) ?_);intro e fr' H' f;cases e with
   |normal=>obtain⟨a,b,d⟩:=f;exact i a b fr' H' d
   |_=>exact f
 exact key m fr H g
def Gq(v:AV)(A B:Prop):Prop:=match v with|.sc (.bool t)=>if t=true then A else B|_=>False
@[simp] theorem Rp(t:Bool)(A B:Prop):Gq (.sc (.bool t)) A B=if t=true then A else B:=rfl
section
variable{P:Program} {T:dA} {n:Nat} {Q:Exit->Fr->cV->Prop} {fr:Fr} {H:cV}
def g_.A'{c:Operand}{x y:Code}
  (h:∀A B:Fr->cV->Prop,(∀fr H,g_ P T n x Q fr H->A fr H)->(∀fr H,g_ P T n y Q fr H->B fr H)->Gq (ev T fr c) (A fr H) (B fr H)) (d:ic c=true:=by rfl):g_ P T n (.cond c x y) Q fr H:=by
 have a:=h (g_ P T n x Q) (g_ P T n y Q) (λ_ _ h=>h) (λ_ _ h=>h);generalize e:ev T fr c=v at a;cases v with
 |sc w=>
  cases w with
  |bool t=>
   refine g_.cond e d (λb=>?_) (λb=>?_)
   ·subst b;simpa using a
   ·subst b;simpa using a
  |_=>exact a.elim
 |_=>exact a.elim
def g_.sr{id:Nat}{ops:Array Oper}{y:Code}(E:List Nat)(h:∀K:Fr->cV->Prop,(∀fr H,g_ P T n y Q fr H->K fr H)->g' P T E ops ops.toList K fr H)(a:uI n ops=true:=by decide+kernel):g_ P T n (.seq (.region id ops false) y) Q fr H:=
 g_.AU λK b=>g_.region E a (h K b)
end
@[simp] theorem range_one:List.range 1=[0]:=rfl
@[simp] theorem XH:List.range 2=[0,1]:=rfl
@[simp] theorem Wi:List.range 3=[0,1,2]:=rfl
section
variable{P:Program} {t e sz:Nat} {bl:Bool} {tag:Tag} {α:Type} {k k' k2:IntKind} {a b:Int} {u:ByteArray}
def KR(h:0<=a):FJ (some (.sc (.int k a)))=some (some a.toNat):=by simp[FJ,h]
def KT(h:¬0<=a):FJ (some (.sc (.int k a)))=none:=by simp[FJ,h]
def zq{x:AV}{lo hi:Option AV}(h:FJ lo=none):mo P t x lo hi none=none:=by unfold mo;rw[h]
def I'{lo hi:Option AV}{a hi':Option Nat}(b:FJ lo=some a)(c:FJ hi=some hi')(f:α->AV)(l:List α)(hu:P.underlying t=some (.slice e))(d:eB P e=some (bl,sz))(g:∀x,(f x).cells.length=sz):mo P t (.slice tag (l.map f)) lo hi none=if hi'.getD l.length<=l.length/\a.getD 0<=hi'.getD l.length then some (.slice .eh (((l.take (hi'.getD l.length)).drop (a.getD 0)).map f))else none:=by
 have h:kg sz (l.map f)=true:=by
  cases l with
  |nil=>rfl|cons x l=>simp[kg,g x]
 unfold mo;rw[b,c];simp only[FJ,hu,d,h,nC,BK];simp
def Jj(f:α->AV)(l:List α)(hu:P.underlying t=some (.slice e))(d:eB P e=some (bl,sz))(g:∀x,(f x).cells.length=sz):mo P t (.slice tag (l.map f)) (some (.sc (.int k a))) none none=(xO l a (dm l)).map λr=>.slice .eh (r.map f):=by
 unfold xO dm
 by_cases b:0<=a
 ·rw[I' (KR b) (hi:=none) (hi':=none) rfl f l hu d g];simp only[b,Xh,Option.getD_some,Option.getD_none,BM,PN]
  by_cases c:l.length<=l.length/\a.toNat<=l.length
  ·rw[cG c,cG c];rfl
  ·rw[cB c,cB c];rfl
 ·rw[zq (KT b),cB (λh=>b h.1)];rfl
end
def yl{P:Program}{t e sz:Nat}{b:Bool}{tag:Tag}{α:Type}(f:α->AV)(l:List α)(hu:P.underlying t=some (.slice e))(a:eB P e=some (b,sz))(c:∀x,(f x).cells.length=sz):mo P t (.slice tag (l.map f)) none (some (.sc (.int .i64 (Go.fg.dm l)))) (some (.sc (.int .i64 (Go.fg.dm l))))=some (.slice .full (l.map f)):=by
 have h:kg sz (l.map f)=true:=by
  cases l with
  |nil=>rfl|cons x l=>simp[kg,c x]
 simp[mo,FJ,hu,a,h,Go.fg.dm,<-List.map_take]
section
variable{P:Program} {t kt e:TypeId} {o:Nat} {k:Int} {α:Type} {f:α->AV} {d:Option Nat} {K:Fr->cV->Prop} {fr:Fr} {H:cV}
end
end Go.ky
