/- Part of the proof of KernelAccepts, KernelDoes: layer. -/
import Derived.Test.YtobcafblgapgfaaGreatDoorL8
set_option linter.all false
namespace Go.ke
open Go Go.fB
def Ay(P:Program)(t:TypeId)(s x:AV)(d:Nat)(K:Fr->cW->Prop)(fr:Fr)(H:cW):Prop:=
 match nT P t,s,x with
 |some (_,sz),.slice tag l,.slice _ m=>
  jq sz l=true/\jq sz m=true/\l.length+m.length<=ie/\(if oV fr tag l then K (grown fr d tag l m) H else m=[]/\K (fr.put (some d) (.slice .hY l)) H)
 |_,_,_=>False
def AS{P:Program}{T:dx}{x y:Operand}{t d:Nat}{K:Fr->cW->Prop}{fr:Fr}{H:cW}:mO P T {callee:=.builtin .append,args:=#[x,y],argTypes:=#[t,t]} (some d) K fr H=Ay P t (ev T fr x) (ev T fr y) d K fr H:=by
 unfold mO Ay;simp only;cases nT P t with
 |none=>rfl|some p=>
  obtain⟨e,sz⟩:=p;cases ev T fr x<;>cases ev T fr y<;>simp only[TA]
def Sz(P:Program)(t:TypeId)(s x:AV)(d:Nat)(K:Fr->cW->Prop)(fr:Fr)(H:cW):Prop:=
 match nT P t,x with
 |some (e,sz),.slice _ m=>
  jq sz m=true/\(js P e).isSome=true/\0<m.length/\match s with
  |.slice .full l=>jq sz l=true/\l.length+m.length<=ie/\∀cap,l.length+m.length<=cap->K (xI fr d (l.flatMap AV.cells++m.flatMap AV.cells++uq ((cap-(l.length+m.length))*sz)) (l.length+m.length) cap) H|.vM b g len cap=>g=fr.gen b/\len+m.length<=ie/\match fr.box b with
   |some cs=>cs.length=cap*sz/\(len+m.length<=cap->K {fr with env:=fN fr.env d (.vM b g (len+m.length) cap),box:=fN fr.box b (some (setCells cs (len*sz) (m.flatMap AV.cells)))} H)/\(∀a,cap<len+m.length->len+m.length<=a->K (xI fr d (cs.take (len*sz)++m.flatMap AV.cells++uq ((a-(len+m.length))*sz)) (len+m.length) a) H)|none=>False
  |_=>False
 |_,_=>False
def NG{P:Program}{T:dx}{x y:Operand}{t d:Nat}{K:Fr->cW->Prop}{fr:Fr}{H:cW}:Cw P T {callee:=.builtin .append,args:=#[x,y],argTypes:=#[t,t]} (some d) K fr H=Sz P t (ev T fr x) (ev T fr y) d K fr H:=by
 unfold Cw Sz;simp only;cases nT P t with
 |none=>rfl|some p=>
  obtain⟨e,sz⟩:=p;cases ev T fr y<;>simp only[TA];cases ev T fr x<;>rfl
def BV(P:Program)(t:TypeId)(s x:AV)(d:Nat)(K:Fr->cW->Prop)(fr:Fr)(H:cW):Prop:=
 match nT P t,x with
 |some (e,sz),.slice _ m=>
  jq sz m=true/\(js P e).isSome=true/\0<m.length/\match s with
  |.slice .full l=>jq sz l=true/\l.length+m.length<=ie/\∀cap,l.length+m.length<=cap->K (fr.put (some d) (.pQ H.length 0 (l.length+m.length) cap)) (H++[l.flatMap AV.cells++m.flatMap AV.cells++uq ((cap-(l.length+m.length))*sz)])|.HK=>m.length<=ie/\∀cap,m.length<=cap->K (fr.put (some d) (.pQ H.length 0 m.length cap)) (H++[m.flatMap AV.cells++uq ((cap-m.length)*sz)])|.pQ o off len cap=>off=0/\len+m.length<=ie/\match H[o]?with
   |some cs=>lj cs=true/\cs.length=cap*sz/\(len+m.length<=cap->K (fr.put (some d) (.pQ o 0 (len+m.length) cap)) (H.set o (setCells cs (len*sz) (m.flatMap AV.cells))))/\(∀a,cap<len+m.length->len+m.length<=a->K (fr.put (some d) (.pQ H.length 0 (len+m.length) a)) (H++[cs.take (len*sz)++m.flatMap AV.cells++uq ((a-(len+m.length))*sz)]))|none=>False
  |_=>False
 |_,_=>False
def AL{P:Program}{T:dx}{x y:Operand}{t d:Nat}{K:Fr->cW->Prop}{fr:Fr}{H:cW}:oP P T {callee:=.builtin .append,args:=#[x,y],argTypes:=#[t,t]} (some d) K fr H=BV P t (ev T fr x) (ev T fr y) d K fr H:=by
 unfold oP BV;simp only;cases nT P t with
 |none=>rfl|some p=>
  obtain⟨e,sz⟩:=p;cases ev T fr y<;>simp only[TA];cases ev T fr x<;>rfl
def rC(P:Program)(t:TypeId)(s x:AV)(d:Nat)(K:Fr->cW->Prop)(fr:Fr)(H:cW):Prop:=(Ay P t s x d K fr H\/Sz P t s x d K fr H)\/BV P t s x d K fr H
def Kd{P:Program}{T:dx}{x y:Operand}{t d:Nat}{K:Fr->cW->Prop}{fr:Fr}{H:cW}:BA P T {callee:=.builtin .append,args:=#[x,y],argTypes:=#[t,t]} (some d) K fr H=False:=by
 refine propext ⟨λh=>?_,False.elim⟩;unfold BA at h;simp only at h
 split at h
 ·rename_i b a _ _;obtain⟨_,_,hu,_⟩:=nA b;rw[hu] at a;cases a
 ·exact h
def gM(tm:Nat->Option Nat)(ei:Nat->Nat)(D:List Nat)(tag:Tag)(n:Nat):Prop:=
 tag=.full\/∃k g,k∈D/\tag=.loc k g/\g=ei k/\tm k=some n
def gM.full{tm:Nat->Option Nat}{ei:Nat->Nat}{D:List Nat}{n:Nat}:gM tm ei D .full n:=.inl rfl
def gM.new{tm:Nat->Option Nat}{ei:Nat->Nat}{D:List Nat}{n d:Nat}(h:d∈D):gM (fN tm d (some n)) (fN ei d (ei d+1)) D (.loc d (ei d+1)) n:=
 .inr ⟨d,_,h,rfl,by simp[fN],by simp[fN]⟩
def gM.other{tm:Nat->Option Nat}{ei:Nat->Nat}{D D':List Nat}{tag a:Tag}{n n' d:Nat}{x:Option Nat}{y:Nat}(h:gM tm ei D tag n)(f:gM tm ei D' a n')
  (i:∀k,k∈D->k∉D') (hd:d∉D):gM (fN (tY a tm) d x) (fN ei d y) D tag n:=by
 rcases h with h|⟨k,g,h1,j,l,e⟩
 ·exact .inl h
 ·refine .inr ⟨k,g,h1,j,?_,?_⟩
  ·have:k≠d:=by rintro rfl;exact hd h1
   simp[fN,this,l]
  ·have b:k≠d:=by rintro rfl;exact hd h1
   simp only[fN,b,kY];rcases f with rfl|⟨k',m,c,rfl,_,_⟩
   ·exact e
   ·have:k≠k':=by rintro rfl;exact i k h1 c
    simp[tY,fN,this,e]
def gM.can{fr:Fr}{D:List Nat}{tag:Tag}{l:List AV}{n:Nat}(h:gM fr.tm fr.ei D tag n)(hn:n=l.length):oV fr tag l=true:=by
 subst hn;rcases h with rfl|⟨k,g,_,rfl,a,b⟩
 ·rfl
 ·simp[oV,a,b]
def Ay.own{P:Program}{t e sz d:Nat}{s x:AV}{K:Fr->cW->Prop}{fr:Fr}{H:cW}{α:Type}{f:α->AV}(l m:List α){D:List Nat}{tag b:Tag}
  (h:gM fr.tm fr.ei D tag l.length) (g:nT P t=some (e,sz)) (i:∀x,(f x).cells.length=sz) (hlen:eJ l m=true) (hs:s=.slice tag (l.map f)) (j:x=.slice b (m.map f))
  (k:K {fr with env:=fN fr.env d (.slice (.loc d (fr.ei d+1)) ((fa l m).map f)),tm:=fN (tY tag fr.tm) d (some (fa l m).length),ei:=fN fr.ei d (fr.ei d+1)} H):Ay P t s x d K fr H:=by
 subst hs;subst j;have n:=Lw hlen
 have c:∀l:List α,jq sz (l.map f)=true:=λl=>by cases l with|nil=>rfl|cons a l=>simp[jq,i]
 unfold Ay;rw[g];refine⟨c l,c m,by simpa[ie,JV] using n,?_⟩;rw[cO (h.can aa4)]
 have o:l.map f++m.map f=(fa l m).map f:=by simp[fa]
 have p:(l.map f).length+(m.map f).length=(fa l m).length:=by simp[y7]
 unfold grown;rw[o,p];exact k
def rC.own{P:Program}{t e sz d:Nat}{s x:AV}{K:Fr->cW->Prop}{fr:Fr}{H:cW}{α:Type}{f:α->AV}(l m:List α){D:List Nat}{tag a:Tag}
  (h:gM fr.tm fr.ei D tag l.length) (b:nT P t=some (e,sz)) (c:∀x,(f x).cells.length=sz) (hlen:eJ l m=true) (hs:s=.slice tag (l.map f)) (g:x=.slice a (m.map f))
  (i:K {fr with env:=fN fr.env d (.slice (.loc d (fr.ei d+1)) ((fa l m).map f)),tm:=fN (tY tag fr.tm) d (some (fa l m).length),ei:=fN fr.ei d (fr.ei d+1)} H):rC P t s x d K fr H:=
 .inl (.inl (Ay.own l m h b c hlen hs g i))
def h9(P:Program)(T:dx)(E:List Nat)(ops:Array Oper)(a:AV)(as:List AV)(d:Option Nat)(rest:List Oper)(K:Fr->cW->Prop)(fr:Fr)(H:cW):Prop:=
 k0 P T a as H λr H'=>gK P T E ops rest K (fr.put d r) H'
def tV(P:Program)(T:dx)(E:List Nat)(ops:Array Oper)(q:Qt)(a:AV)(as:List AV)(d:Option Nat)(rest:List Oper)(K:Fr->cW->Prop)(fr:Fr)(H:cW):Prop:=
 if d.any E.contains then QH P T q true a as d (qF P T E ops q rest K) fr H else∃r H',mI P T a as H r H'/\(QK q H H')/\qF P T E ops q rest K (fr.put d r) H'
def Kj{P:Program}{T:dx}{q:Qt}{soft:Bool}{a:AV}{as:List AV}{d:Option Nat}{K:Fr->cW->Prop}{fr:Fr}{H H':cW}{r:AV}(h:mI P T a as H r H')(b:soft=true->QK q H H')(c:K (fr.put d r) H'):QH P T q soft a as d K fr H:=
 ⟨_,h,⟨r,H',rfl,rfl⟩,λg i ⟨e,f⟩=>by subst e;subst f;exact⟨b,c⟩⟩
def tV.of{P:Program}{T:dx}{E:List Nat}{ops:Array Oper}{q:Qt}{rest:List Oper}{K:Fr->cW->Prop}{fr:Fr}{H H':cW}{d:Option Nat}{a:AV}{as:List AV}{r:AV}(h:mI P T a as H r H')(b:QK q H H')(c:qF P T E ops q rest K (fr.put d r) H'):tV P T E ops q a as d rest K fr H:=by
 unfold tV
 split
 ·exact Kj h (λ_=>b) c
 ·exact⟨r,H',h,b,c⟩
section
variable{P:Program} {T:dx} {E:List Nat} {ops:Array Oper} {q:Qt} {rest:List Oper} {K:Fr->cW->Prop} {fr:Fr} {H H':cW} {d:Option Nat} {ty:TypeId} {pos:String} {after:Array Edge}
def h9.fn{g:FuncId}{as:List AV}{r:AV}(h:du P T g as H r H')(a:gK P T E ops rest K (fr.put d r) H'):h9 P T E ops (.func (.func g) [] []) as d rest K fr H:=by
 unfold h9 k0;simp only[mR,wT];exact h.post a
def h9.Uf{g:FuncId}{b c as a:List AV}{r:AV}(e:b++as++c=a)(h:du P T g a H r H')(f:gK P T E ops rest K (fr.put d r) H'):h9 P T E ops (.func (.func g) b c) as d rest K fr H:=by
 subst e;unfold h9 k0;exact h.post f
def h9.fnP{g:FuncId}{as:List AV}{Post:AV->cW->Prop}(h:dL P T g as H Post)(a:∀r H',Post r H'->gK P T E ops rest K (fr.put d r) H'):h9 P T E ops (.func (.func g) [] []) as d rest K fr H:=by
 unfold h9 k0;simp only[mR,wT];exact h.mono a
def tV.fn{g:FuncId}{as:List AV}{r:AV}(h:du P T g as H r H')(a:QK q H H')(b:qF P T E ops q rest K (fr.put d r) H'):tV P T E ops q (.func (.func g) [] []) as d rest K fr H:=by
 refine tV.of ?_ a b;unfold mI k0;simp only[mR,wT];exact h
@[simp] theorem aab:gK P T E ops [] K fr H=K fr H:=rfl
@[simp] theorem Ys:qF P T E ops q [] K fr H=K fr H:=rfl
@[simp] theorem YA{x:Operand}:gK P T E ops ({dst:=d,op:=.move x,type:=ty,pos:=pos,after:=after,guard:=none}::rest) K fr H=gK P T E ops rest K (fr.put d (ev T fr x)) H:=rfl
@[simp] theorem Vf{x:Operand}:gK P T E ops ({dst:=d,op:=.assign x,type:=ty,pos:=pos,after:=after,guard:=none}::rest) K fr H=gK P T E ops rest K (fr.put d (ev T fr x)) H:=rfl
@[simp] theorem Xk{t:TypeId}:gK P T E ops ({dst:=d,op:=.alloc t,type:=ty,pos:=pos,after:=after,guard:=none}::rest) K fr H=match js P t with|some z=>j_ E d z (gK P T E ops rest K) fr H|none=>False:=rfl
@[simp] theorem ZW{t:TypeId}{x:Operand}:gK P T E ops ({dst:=d,op:=.box t x,type:=ty,pos:=pos,after:=after,guard:=none}::rest) K fr H=(dY (ev T fr x)=true/\j_ E d (ev T fr x).cells (gK P T E ops rest K) fr H):=rfl
@[simp] theorem YB{t:TypeId}{x:Operand}:gK P T E ops ({dst:=d,op:=.load t x,type:=ty,pos:=pos,after:=after,guard:=none}::rest) K fr H=match sY P fr H t (ev T fr x)with|some v=>gK P T E ops rest K (fr.put d v) H|none=>False:=rfl
@[simp] theorem WE{t:TypeId}{x y:Operand}:gK P T E ops ({dst:=none,op:=.store t x y,type:=ty,pos:=pos,after:=after,guard:=none}::rest) K fr H=ld P t (ev T fr x) (ev T fr y) (gK P T E ops rest K) fr H:=by simp[gK,BQ,qi]
@[simp] theorem Qy{t n:Nat}{ps:Array (Nat×Operand)}:gK P T E ops ({dst:=d,op:=.buildSlice t n ps,type:=ty,pos:=pos,after:=after,guard:=none}::rest) K fr H=match mH P t n (ps.toList.map λp=>(p.1,ev T fr p.2))with|some v=>FH E d v (gK P T E ops rest K) fr H|none=>False:=rfl
@[simp] theorem Yn{E:List Nat}{d:Option Nat}{v:AV}{K:Fr->cW->Prop}{fr:Fr}{H:cW}:FH E d v K fr H=if d.any E.contains then(match v with|.slice _ l=>K (fr.put d (.pQ H.length 0 l.length l.length)) (H++[l.flatMap AV.cells])|_=>False)else K (fr.put d v) H:=rfl
@[simp] theorem Vo{x y:Operand}{t d:Nat}:gK P T E ops ({dst:=some d,op:=.call {callee:=.builtin .append,args:=#[x,y],argTypes:=#[t,t]},type:=ty,pos:=pos,after:=after,guard:=none}::rest) K fr H=rC P t (ev T fr x) (ev T fr y) d (gK P T E ops rest K) fr H:=by
 simp only[gK,BQ,qi];unfold rC;rw[<-AS (T:=T),<-NG (T:=T),<-AL (T:=T),Kd,Xb]
@[simp] theorem YU{f:Operand}{as:Array Operand}{ts:Array TypeId}:gK P T E ops ({dst:=d,op:=.call {callee:=.value f,args:=as,argTypes:=ts},type:=ty,pos:=pos,after:=after,guard:=none}::rest) K fr H=h9 P T E ops (ev T fr f) (as.toList.map λx=>(ev T fr x).norm) d rest K fr H:=rfl
@[simp] theorem ZT{as:Array Operand}{ts:Array TypeId}:gK P T E ops ({dst:=d,op:=.call {callee:=.builtin .len,args:=as,argTypes:=ts},type:=ty,pos:=pos,after:=after,guard:=none}::rest) K fr H=match vL P T fr {callee:=.builtin .len,args:=as,argTypes:=ts}with|some v=>gK P T E ops rest K (fr.put d v) H|none=>False:=rfl
@[simp] theorem Zd{as:Array Operand}{ts:Array TypeId}:gK P T E ops ({dst:=d,op:=.call {callee:=.builtin .max,args:=as,argTypes:=ts},type:=ty,pos:=pos,after:=after,guard:=none}::rest) K fr H=match vL P T fr {callee:=.builtin .max,args:=as,argTypes:=ts}with|some v=>gK P T E ops rest K (fr.put d v) H|none=>False:=rfl
@[simp] theorem YJ{c a b:Operand}:gK P T E ops ({dst:=d,op:=.pick c a b,type:=ty,pos:=pos,after:=after,guard:=none}::rest) K fr H=match xL P T fr {dst:=d,op:=.pick c a b,type:=ty,pos:=pos,after:=after,guard:=none}with|some v=>gK P T E ops rest K (fr.put d v) H|none=>False:=rfl
@[simp] theorem Xu{t:TypeId}{ps:Array (Nat×Operand)}:gK P T E ops ({dst:=d,op:=.build t ps,type:=ty,pos:=pos,after:=after,guard:=none}::rest) K fr H=match Dh P t (ps.toList.map λp=>(p.1,ev T fr p.2))with|some v=>gK P T E ops rest K (fr.put d v) H|none=>False:=rfl
@[simp] theorem Wy{o:BinOp}{t u:TypeId}{x y:Operand}:gK P T E ops ({dst:=d,op:=.binOp o t x y u,type:=ty,pos:=pos,after:=after,guard:=none}::rest) K fr H=match Jm P o t y (ev T fr x) (ev T fr y)with|some v=>gK P T E ops rest K (fr.put d v) H|none=>False:=rfl
@[simp] theorem YI{o:UnOp}{t:TypeId}{x:Operand}:gK P T E ops ({dst:=d,op:=.unOp o t x,type:=ty,pos:=pos,after:=after,guard:=none}::rest) K fr H=match Yv o (ev T fr x)with|some v=>gK P T E ops rest K (fr.put d v) H|none=>False:=rfl
@[simp] theorem Th{fn:Fn}{f c:Array Operand}:gK P T E ops ({dst:=d,op:=.makeFunc fn f c,type:=ty,pos:=pos,after:=after,guard:=none}::rest) K fr H=gK P T E ops rest K (fr.put d (.func fn (f.toList.map λx=>(ev T fr x).norm) (c.toList.map λx=>(ev T fr x).norm))) H:=rfl
@[simp] theorem Sj{t i:Nat}{x:Operand}:gK P T E ops ({dst:=d,op:=.fieldAddr t x i,type:=ty,pos:=pos,after:=after,guard:=none}::rest) K fr H=match qR P t (ev T fr x) i with|some v=>gK P T E ops rest K (fr.put d v) H|none=>False:=rfl
@[simp] theorem V8{t i:Nat}{x:Operand}:gK P T E ops ({dst:=d,op:=.field t x i,type:=ty,pos:=pos,after:=after,guard:=none}::rest) K fr H=match Bc P t (ev T fr x) i with|some v=>gK P T E ops rest K (fr.put d v) H|none=>False:=rfl
@[simp] theorem RX{t:TypeId}{x i:Operand}:gK P T E ops ({dst:=d,op:=.indexAddr t x i,type:=ty,pos:=pos,after:=after,guard:=none}::rest) K fr H=match fl P t (ev T fr x) (ev T fr i)with|some v=>gK P T E ops rest K (fr.put d v) H|none=>False:=rfl
@[simp] theorem Ws{t:TypeId}{x:Operand}{lo hi a:Option Operand}:gK P T E ops ({dst:=d,op:=.slice t x lo hi a,type:=ty,pos:=pos,after:=after,guard:=none}::rest) K fr H=match o8 P t (ev T fr x) (lo.map (ev T fr)) (hi.map (ev T fr)) (a.map (ev T fr))with|some v=>gK P T E ops rest K (fr.put d v) H|none=>False:=rfl
@[simp] theorem TC{i:Nat}{x:Operand}:gK P T E ops ({dst:=d,op:=.extract x i,type:=ty,pos:=pos,after:=after,guard:=none}::rest) K fr H=match xL P T fr {dst:=d,op:=.extract x i,type:=ty,pos:=pos,after:=after,guard:=none}with|some v=>gK P T E ops rest K (fr.put d v) H|none=>False:=rfl
@[simp] theorem Td{x:Operand}:gK P T E ops ({dst:=d,op:=.nilCheck x,type:=ty,pos:=pos,after:=after,guard:=none}::rest) K fr H=match xL P T fr {dst:=d,op:=.nilCheck x,type:=ty,pos:=pos,after:=after,guard:=none}with|some v=>gK P T E ops rest K (fr.put d v) H|none=>False:=rfl
@[simp] theorem T7{t:TypeId}:gK P T E ops ({dst:=d,op:=.makeMap t none,type:=ty,pos:=pos,after:=after,guard:=none}::rest) K fr H=Gh d (gK P T E ops rest K) fr H:=rfl
@[simp] theorem Rs{t:TypeId}{x i y:Operand}:gK P T E ops ({dst:=none,op:=.mapUpdate t x i y,type:=ty,pos:=pos,after:=after,guard:=none}::rest) K fr H=rX P t (ev T fr x) (ev T fr i) (ev T fr y) (gK P T E ops rest K) fr H:=by simp[gK,BQ,qi]
@[simp] theorem Vx{t:TypeId}{x i y:Operand}:gK P T E ops ({dst:=none,op:=.insert t x i y,type:=ty,pos:=pos,after:=after,guard:=none}::rest) K fr H=rX P t (ev T fr x) (ev T fr i) (ev T fr y) (gK P T E ops rest K) fr H:=by simp[gK,BQ,qi]
@[simp] theorem Wl{t:TypeId}{x:Operand}:gK P T E ops ({dst:=d,op:=.range t x,type:=ty,pos:=pos,after:=after,guard:=none}::rest) K fr H=GN P t (ev T fr x) d (gK P T E ops rest K) fr H:=rfl
@[simp] theorem WV{x:Operand}:gK P T E ops ({dst:=d,op:=.entry x,type:=ty,pos:=pos,after:=after,guard:=none}::rest) K fr H=match CR (ev T fr x) H with|some v=>gK P T E ops rest K (fr.put d v) H|none=>False:=rfl
@[simp] theorem Qv{x:Operand}:gK P T E ops ({dst:=d,op:=.next x false,type:=ty,pos:=pos,after:=after,guard:=none}::rest) K fr H=Iy (ev T fr x) d (gK P T E ops rest K) fr H:=rfl
@[simp] theorem WC{op:Op}{j:Nat}{want:Bool}:gK P T E ops ({dst:=d,op:=op,type:=ty,pos:=pos,after:=after,guard:=some (j,want)}::rest) K fr H=match(ops[j]?).bind (·.dst)with
 |some g=>match fr.env g with
  |.sc (.bool b)=>if b=want then gK P T E ops ({dst:=d,op:=op,type:=ty,pos:=pos,after:=after,guard:=none}::rest) K fr H else gK P T E ops rest K (fr.put d (.tuple [])) H|.tuple _=>gK P T E ops rest K (fr.put d (.tuple [])) H|_=>False
 |none=>False:=rfl
@[simp] theorem Wt{x:Operand}:qF P T E ops q ({dst:=d,op:=.move x,type:=ty,pos:=pos,after:=after,guard:=none}::rest) K fr H=qF P T E ops q rest K (fr.put d (ev T fr x)) H:=rfl
@[simp] theorem Xg{t:TypeId}{x:Operand}:qF P T E ops q ({dst:=d,op:=.load t x,type:=ty,pos:=pos,after:=after,guard:=none}::rest) K fr H=if pT ops.toList x (ev T fr x)&&q.ok (ev T fr x)then(match sY P fr H t (ev T fr x)with|some v=>qF P T E ops q rest K (fr.put d v) H|none=>False)else False:=by
 simp only[qF,gB,gi,qa,jT,nF,uB,oZ,kY,fO,lI,O5,aaw]
 split
 ·rename_i v a
  split at a
  ·rename_i b;rw[cO b,a]
  ·cases a
 ·rename_i a
  split at a
  ·rename_i b;rw[cO b,a]
  ·rename_i b;rw[cK b]
@[simp] theorem Ww{f:Operand}{as:Array Operand}{ts:Array TypeId}:qF P T E ops q ({dst:=d,op:=.call {callee:=.value f,args:=as,argTypes:=ts},type:=ty,pos:=pos,after:=after,guard:=none}::rest) K fr H=tV P T E ops q (ev T fr f) (as.toList.map λx=>(ev T fr x).norm) d rest K fr H:=by
 simp only[qF,gB,gi,qa,jT,nF,uB,oZ,kY,fO,ZK,tV]
@[simp] theorem Vy{o:BinOp}{t u:TypeId}{x y:Operand}:qF P T E ops q ({dst:=d,op:=.binOp o t x y u,type:=ty,pos:=pos,after:=after,guard:=none}::rest) K fr H=match Jm P o t y (ev T fr x) (ev T fr y)with|some v=>qF P T E ops q rest K (fr.put d v) H|none=>False:=rfl
@[simp] theorem QB{t i:Nat}{x:Operand}:qF P T E ops q ({dst:=d,op:=.fieldAddr t x i,type:=ty,pos:=pos,after:=after,guard:=none}::rest) K fr H=match qR P t (ev T fr x) i with|some v=>qF P T E ops q rest K (fr.put d v) H|none=>False:=rfl
@[simp] theorem S'{x:Operand}:qF P T E ops q ({dst:=d,op:=.nilCheck x,type:=ty,pos:=pos,after:=after,guard:=none}::rest) K fr H=match xL P T fr {dst:=d,op:=.nilCheck x,type:=ty,pos:=pos,after:=after,guard:=none}with|some v=>qF P T E ops q rest K (fr.put d v) H|none=>False:=rfl
end
@[simp] theorem Fr.aaF(fr:Fr)(d:Nat)(x:AV):fr.put (some d) x={fr with env:=fN fr.env d x}:=rfl
@[simp] theorem aa3{α:Type}(f:Nat->α)(i:Nat)(x:α)(j:Nat):fN f i x j=if j=i then x else f j:=rfl
@[simp] theorem aaJ(v:Value):AV.cells (.sc v:AV)=[(.sc v:AV)]:=rfl
@[simp] theorem VM(v:Value):dY (.sc v:AV)=true:=rfl
@[simp] theorem aaW(v:Value):AV.h_ (.sc v:AV)=(.sc v:AV):=rfl
@[simp] theorem aa1(v:Value):AV.norm (.sc v:AV)=(.sc v:AV):=rfl
@[simp] theorem Tw(P:Program)(ty:TypeId)(v:Value):rD P ty (.sc v:AV)=match eO P ty with|some (false,_)=>true|_=>false:=by
 unfold rD;cases eO P ty with
 |none=>rfl|some p=>obtain⟨b,k⟩:=p;cases b<;>rfl
@[simp] theorem Yu(b g o c:Nat):AV.cells (.vM b g o c:AV)=[(.vM b g o c:AV)]:=rfl
@[simp] theorem Uq(b g o c:Nat):dY (.vM b g o c:AV)=true:=rfl
@[simp] theorem WX(o f:Nat):AV.cells (.dM o f:AV)=[(.dM o f:AV)]:=rfl
@[simp] theorem Yl(o f:Nat):AV.norm (.dM o f:AV)=(.dM o f:AV):=rfl
@[simp] theorem Pm(P:Program)(ty:TypeId)(o f:Nat):rD P ty (.dM o f:AV)=match eO P ty with|some (false,_)=>true|_=>false:=by
 unfold rD;cases eO P ty with
 |none=>rfl|some p=>obtain⟨b,k⟩:=p;cases b<;>rfl
@[simp] theorem V5(o:Nat):AV.cells (.mU o:AV)=[(.mU o:AV)]:=rfl
@[simp] theorem Tg(o:Nat):dY (.mU o:AV)=true:=rfl
@[simp] theorem WN(o:Nat):AV.h_ (.mU o:AV)=(.mU o:AV):=rfl
@[simp] theorem YD(o:Nat):AV.norm (.mU o:AV)=(.mU o:AV):=rfl
@[simp] theorem Yj(o s l c:Nat):AV.cells (.pQ o s l c:AV)=[(.pQ o s l c:AV)]:=rfl
@[simp] theorem T4(o s l c:Nat):dY (.pQ o s l c:AV)=true:=rfl
@[simp] theorem Yi(o s l c:Nat):AV.h_ (.pQ o s l c:AV)=(.pQ o s l c:AV):=rfl
@[simp] theorem YG(o s l c:Nat):AV.eD (.pQ o s l c)=true:=rfl
@[simp] theorem ZY{P:Program}{t:TypeId}{b s n c:Nat}:Cz P t (.pQ b s n c)=match P.underlying t with|some (.slice _)=>some (.sc (.int .i64 n))|some (.array n _)=>some (.sc (.int .i64 n))|_=>none:=by
 unfold Cz;cases P.underlying t with
 |none=>rfl|some y=>cases y<;>rfl
@[simp] theorem QQ{P:Program}{t:TypeId}{k:IntKind}{a:Int}{b s n c:Nat}:fl P t (.pQ b s n c) (.sc (.int k a))=match P.underlying t with
  |some (.slice e)=>match eO P e with
   |some (_,sz)=>if 0<=a/\a<(n:Int)then some (.dM b (s+a.toNat*sz))else none|none=>none
  |_=>none:=by
 unfold fl;cases P.underlying t with
 |none=>rfl|some y=>cases y<;>rfl
@[simp] theorem Ym:lj []=false:=rfl
@[simp] theorem XK(c:AV)(cs:List AV):lj (c::cs)=c.eD:=rfl
@[simp] theorem Zi(v:Value):AV.eD (.sc v)=true:=rfl
@[simp] theorem Xl(x:AV):AV.eD (.lG x)=true:=rfl
@[simp] theorem Wu(b g o:Nat):AV.eD (.fC b g o)=true:=rfl
@[simp] theorem V1(o f:Nat):AV.eD (.dM o f)=true:=rfl
@[simp] theorem WD(o:Nat):AV.eD (.mU o)=true:=rfl
@[simp] theorem Vn(t:Tag)(l:List AV):AV.eD (.slice t l)=true:=rfl
@[simp] theorem WH(f:Fn)(a c:List AV):AV.eD (.func f a c)=true:=rfl
@[simp] theorem VT:AV.eD .undef=true:=rfl
@[simp] theorem Yp(b g l c:Nat):AV.eD (.vM b g l c)=true:=rfl
@[simp] theorem VL(t:TypeId)(x:AV):AV.eD (.iface t x)=true:=rfl
@[simp] theorem VC(t:Tag)(l:List AV):AV.cells (.slice t l:AV)=[(.slice t l:AV)]:=rfl
@[simp] theorem S6(t:Tag)(l:List AV):dY (.slice t l:AV)=true:=rfl
@[simp] theorem VP(t:Tag)(l:List AV):AV.h_ (.slice t l:AV)=.slice .hY l:=rfl
@[simp] theorem WM(t:Tag)(l:List AV):AV.norm (.slice t l:AV)=.slice .hY l:=rfl
@[simp] theorem VZ(P:Program)(ty:TypeId)(t:Tag)(l:List AV):rD P ty (.slice t l:AV)=match eO P ty with|some (false,_)=>true|_=>false:=by
 unfold rD;cases eO P ty with
 |none=>rfl|some p=>obtain⟨b,k⟩:=p;cases b<;>rfl
@[simp] theorem YF(cs:List AV):AV.cells (.agg cs:AV)=cs:=rfl
@[simp] theorem UX(cs:List AV):dY (.agg cs:AV)=true:=rfl
@[simp] theorem Zt(cs:List AV):AV.norm (.agg cs:AV)=.agg (cs.map AV.h_):=rfl
@[simp] theorem vg(P:Program)(ty:TypeId)(cs:List AV):rD P ty (.agg cs)=match eO P ty with|some (true,n)=>cs.length==n|_=>false:=by
 unfold rD;cases eO P ty with
 |none=>rfl|some p=>obtain⟨b,k⟩:=p;cases b<;>rfl
@[simp] theorem W8(f:Fn)(a c:List AV):AV.cells (.func f a c:AV)=[(.func f a c:AV)]:=rfl
@[simp] theorem Te(f:Fn)(a c:List AV):dY (.func f a c:AV)=true:=rfl
@[simp] theorem XL(f:Fn)(a c:List AV):AV.h_ (.func f a c:AV)=(.func f a c:AV):=rfl
@[simp] theorem YR(f:Fn)(a c:List AV):AV.norm (.func f a c:AV)=(.func f a c:AV):=rfl
@[simp] theorem Vi(sz:Nat)(x:AV)(l:List AV):jq sz (x::l)=(x.cells.length==sz):=rfl
def dH(H:cW)(o:Nat)(c:List AV):cW:=H.set o c
@[simp] theorem pU{H:cW}{o:Nat}{x y:List AV}:dH (dH H o x) o y=dH H o y:=by simp[dH]
@[simp] theorem jk{H:cW}{o:Nat}{x:List AV}:(dH H o x).length=H.length:=by simp[dH]
section
variable{P:Program} {t:TypeId} {k k':IntKind} {a b:Int} {u v:ByteArray} {p q:Bool}
@[simp] theorem ZU{i:Nat}{u v:AV}{op:BinOp}:Jm P op t (.tmp i) u v=nH P op t u v:=rfl
@[simp] theorem Y5{i:Int}{u v:AV}{op:BinOp}:Jm P op t (.const (.int k i)) u v=nH P op t u v:=rfl
@[simp] theorem aaH{i:Option Addr}{u v:AV}{op:BinOp}:Jm P op t (.const (.pointer i)) u v=nH P op t u v:=rfl
@[simp] theorem aak:nH P .add t (.sc (.int k a)) (.sc (.int k b))=some (.sc (.int k (dF k a b))):=by simp[nH,rJ,qh,dF]
@[simp] theorem ZQ:nH P .sub t (.sc (.int k a)) (.sc (.int k b))=some (.sc (.int k (dZ k a b))):=by simp[nH,rJ,qh,dZ]
@[simp] theorem Zk:nH P .mul t (.sc (.int k a)) (.sc (.int k b))=some (.sc (.int k (J0 k a b))):=by simp[nH,rJ,qh,J0]
@[simp] theorem aaP:nH P .rem t (.sc (.int k a)) (.sc (.int k b))=if I8 b then some (.sc (.int k (SW k a b)))else none:=by
 by_cases h:b=0<;>simp[nH,rJ,qh,SW,I8,h]
@[simp] theorem YY:nH P .and t (.sc (.int k a)) (.sc (.int k b))=some (.sc (.int k (qP k a b))):=by simp[nH,rJ,qh,qP]
@[simp] theorem abt:nH P .or t (.sc (.int k a)) (.sc (.int k b))=some (.sc (.int k (x0 k a b))):=by simp[nH,rJ,qh,x0]
@[simp] theorem aaA:nH P .shl t (.sc (.int k a)) (.sc (.int k' b))=if Hn b then some (.sc (.int k (S7 k a b)))else none:=by
 by_cases h:b<0<;>simp[nH,rJ,S7,Hn,h]
@[simp] theorem aaB:nH P .shr t (.sc (.int k a)) (.sc (.int k' b))=if Hn b then some (.sc (.int k (Su k a b)))else none:=by
 by_cases h:b<0<;>simp[nH,rJ,Su,Hn,h]
@[simp] theorem aao:nH P .eql t (.sc (.int k a)) (.sc (.int k b))=some (.sc (.bool (dg a b))):=by simp[nH,rJ,qh,dg]
@[simp] theorem aax:nH P .neq t (.sc (.int k a)) (.sc (.int k b))=some (.sc (.bool (dw a b))):=by simp[nH,rJ,qh,dw]
@[simp] theorem aay:nH P .lss t (.sc (.int k a)) (.sc (.int k b))=some (.sc (.bool (qj a b))):=by simp[nH,rJ,qh,qj]
@[simp] theorem aaz:nH P .leq t (.sc (.int k a)) (.sc (.int k b))=some (.sc (.bool (Em a b))):=by simp[nH,rJ,qh,Em]
@[simp] theorem Zm:nH P .gtr t (.sc (.int k a)) (.sc (.int k b))=some (.sc (.bool (kZ a b))):=by simp[nH,rJ,qh,kZ]
@[simp] theorem aaD:nH P .geq t (.sc (.int k a)) (.sc (.int k b))=some (.sc (.bool (sM a b))):=by simp[nH,rJ,qh,sM]
@[simp] theorem aba:Yv .not (.sc (.bool p))=some (.sc (.bool (qf p))):=by simp[Yv,qf]
@[simp] theorem Yo:OG (.sc (.int k a)) (.sc (.int k' b))=some (.sc (.int k (imax a b))):=rfl
@[simp] theorem aaT{α:Type}{f:α->AV}{tag:Tag}{l:List α}:Cz P t (.slice tag (l.map f))=match P.underlying t with|some (.slice _)=>some (.sc (.int .i64 (di l)))|some (.array n _)=>some (.sc (.int .i64 n))|_=>none:=by
 unfold Cz di;cases P.underlying t with
 |none=>rfl|some y=>cases y<;>simp
@[simp] theorem Y3{tag:Tag}:Cz P t (.slice tag [])=match P.underlying t with|some (.slice _)=>some (.sc (.int .i64 0))|some (.array n _)=>some (.sc (.int .i64 n))|_=>none:=by
 unfold Cz;cases P.underlying t with
 |none=>rfl|some y=>cases y<;>rfl
@[simp] theorem Yw{tag:Tag}{x:AV}{l:List AV}:Cz P t (.slice tag (x::l))=match P.underlying t with|some (.slice _)=>some (.sc (.int .i64 ((l.length+1:Nat):Int)))|some (.array n _)=>some (.sc (.int .i64 n))|_=>none:=by
 unfold Cz;cases P.underlying t with
 |none=>rfl|some y=>cases y<;>rfl
@[simp] theorem Rf{α:Type}{f:α->AV}{tag:Tag}{l:List α}:fl P t (.slice tag (l.map f)) (.sc (.int k a))=match P.underlying t with
  |some (.slice e)=>match de l a,eO P e with
   |some x,some (_,sz)=>if(f x).cells.length=sz then some (.lG (f x))else none|_,_=>none
  |_=>none:=by
 unfold fl de;cases P.underlying t with
 |none=>rfl|some y=>
  cases y<;>try rfl
  rename_i e;simp only[tM]
  by_cases h:0<=a
  ·rw[cO h,cO h];cases l[a.toNat]?with
   |none=>rfl|some x=>cases eO P e<;>rfl
  ·rw[cK h,cK h]
def GI{α:Type}{f:α->AV}{L:List α}{n e:Nat}(hu:P.underlying t=some (.array n e))(c:eO P e=some (false,1))(hn:L.length=n):fl P t (.lG (.agg (L.map f))) (.sc (.int k a))=(de L a).map λx=>.lG (f x):=by
 unfold fl de;simp only[hu,c,V7];unfold lH;simp only[c,AV.cells]
 by_cases h:0<=a
 ·rw[cO h]
  by_cases d:a<n
  ·rw[cO ⟨h,d⟩];simp only[tM];cases L[a.toNat]?<;>rfl
  ·rw[cK (λb=>d b.2),TO VW];rfl
 ·rw[cK h,cK (λb=>h b.1)];rfl
end
attribute [simp] ev ofValue qb z7 j_ Gh sY lH qR Bc Dh Ee mH setCells B6 Iv vL xL
 pT DD rootOf isG Y_ LX H6 uS Ft
@[simp] theorem VK{P:Program}{t:TypeId}{b g off:Nat}{v:AV}{K:Fr->cW->Prop}{fr:Fr}{H:cW}:ld P t (.fC b g off) v K fr H=match eO P t with
  |none=>False|some (_,n)=>match fr.box b with
   |some cs=>g=fr.gen b/\v.cells.length=n/\off+n<=cs.length/\dY v=true/\K {fr with box:=fN fr.box b (some (setCells cs off v.cells))} H|none=>False:=by
 unfold ld;cases eO P t with
 |none=>rfl|some p=>rfl
@[simp] theorem VH{P:Program}{t:TypeId}{o off:Nat}{v:AV}{K:Fr->cW->Prop}{fr:Fr}{H:cW}:ld P t (.dM o off) v K fr H=match eO P t with
  |none=>False|some (_,n)=>match H[o]?with
   |some cs=>lj cs=true/\v.cells.length=n/\off+n<=cs.length/\dY v=true/\K fr (H.set o (setCells cs off v.norm.cells))|none=>False:=by
 unfold ld;cases eO P t with
 |none=>rfl|some p=>rfl
def fg.Ma{P:Program}{T:dx}{n:Nat}{Q:Exit->Fr->cW->Prop}{fr:Fr}{H:cW}{c:Code}(I:Nat->Fr->cW->Prop)(m:Nat)(f:I m fr H)
  (g:∀m fr H,I m fr H->∀K:Fr->cW->Prop,(∀fr' H' a,a<m->I a fr' H'->K fr' H')->fg P T n c (Ft K Q) fr H):fg P T n (.loop c) Q fr H:=by
 refine fg.loop ?_
 have key:∀k fr H,I k fr H->XC P T n c Q fr H:=by
  intro k
  induction k using Nat.strongRecOn with
  |_ k h=>
   intro fr H i;refine XC.round (fg.mono (g k fr H i (λfr' H'=>∃a,a<k/\I a fr' H') λfr' H' a h1 b=>⟨a,h1,b⟩) ?_);intro e fr' H' d;cases e with
   |normal=>obtain⟨a,h1,b⟩:=d;exact h a h1 fr' H' b
   |_=>exact d
 exact key m fr H f
def J8(v:AV)(A B:Prop):Prop:=match v with|.sc (.bool t)=>if t then A else B|_=>False
@[simp] theorem Vu(t:Bool)(A B:Prop):J8 (.sc (.bool t)) A B=if t then A else B:=rfl
section
variable{P:Program} {T:dx} {n:Nat} {Q:Exit->Fr->cW->Prop} {fr:Fr} {H:cW}
def fg.s9{c:Operand}{x y:Code}
  (h:∀A B:Fr->cW->Prop,(∀fr H,fg P T n x Q fr H->A fr H)->(∀fr H,fg P T n y Q fr H->B fr H)->J8 (ev T fr c) (A fr H) (B fr H)) (d:iD c=true:=by rfl):fg P T n (.cond c x y) Q fr H:=by
 have a:=h (fg P T n x Q) (fg P T n y Q) (λ_ _ h=>h) (λ_ _ h=>h);generalize e:ev T fr c=v at a;cases v with
 |sc w=>
  cases w with
  |bool t=>
   refine fg.cond e d (λb=>?_) (λb=>?_)
   ·subst b;simpa using a
   ·subst b;simpa using a
  |_=>exact a.elim
 |_=>exact a.elim
def fg.sr{id:Nat}{ops:Array Oper}{y:Code}(E:List Nat)(h:∀K:Fr->cW->Prop,(∀fr H,fg P T n y Q fr H->K fr H)->gK P T E ops ops.toList K fr H)(a:xA n ops=true:=by decide+kernel):fg P T n (.seq (.region id ops false) y) Q fr H:=
 fg.tx λK b=>fg.region E a (h K b)
def fg.Z9{x y:Code}(R:Fr->cW->Prop)(h1:∀K:Fr->cW->Prop,(∀fr H,R fr H->K fr H)->fg P T n x (Ft K Q) fr H)(b:∀fr H,R fr H->fg P T n y Q fr H):fg P T n (.seq x y) Q fr H:=
 fg.seq ((h1 R λ_ _ h=>h).mono λe fr' H' a=>by cases e<;>first|exact b _ _ a|exact a)
end
@[simp] theorem range_one:List.range 1=[0]:=rfl
@[simp] theorem Zc:List.range 2=[0,1]:=rfl
@[simp] theorem Y':List.range 3=[0,1,2]:=rfl
@[simp] theorem YX:List.range 4=[0,1,2,3]:=rfl
section
variable{P:Program} {t e sz:Nat} {bl:Bool} {tag:Tag} {α:Type} {k k' k2:IntKind} {a b:Int} {u:ByteArray}
def T3(h:0<=a):Mh (some (.sc (.int k a)))=some (some a.toNat):=by simp[Mh,h]
def T9(h:¬0<=a):Mh (some (.sc (.int k a)))=none:=by simp[Mh,h]
def Ks{x:AV}{lo hi:Option AV}(h:Mh lo=none):o8 P t x lo hi none=none:=by unfold o8;rw[h]
def Lz{lo hi:Option AV}{a hi':Option Nat}(h1:Mh lo=some a)(b:Mh hi=some hi')(f:α->AV)(l:List α)(hu:P.underlying t=some (.slice e))(c:eO P e=some (bl,sz))(d:∀x,(f x).cells.length=sz):o8 P t (.slice tag (l.map f)) lo hi none=if hi'.getD l.length<=l.length/\a.getD 0<=hi'.getD l.length then some (.slice .hY (((l.take (hi'.getD l.length)).drop (a.getD 0)).map f))else none:=by
 have h:jq sz (l.map f)=true:=by
  cases l with
  |nil=>rfl|cons x l=>simp[jq,d x]
 unfold o8;rw[h1,b];simp only[Mh,hu,c,h,Uv,AP];simp
def KK(f:α->AV)(l:List α)(hu:P.underlying t=some (.slice e))(c:eO P e=some (bl,sz))(d:∀x,(f x).cells.length=sz):o8 P t (.slice tag (l.map f)) (some (.sc (.int k a))) none none=(AT l a (di l)).map λr=>.slice .hY (r.map f):=by
 unfold AT di
 by_cases h1:0<=a
 ·rw[Lz (T3 h1) (hi:=none) (hi':=none) rfl f l hu c d];simp only[h1,TA,Option.getD_some,Option.getD_none,AN,Qe]
  by_cases b:l.length<=l.length/\a.toNat<=l.length
  ·rw[cO b,cO b];rfl
  ·rw[cK b,cK b];rfl
 ·rw[Ks (T9 h1),cK (λh=>h1 h.1)];rfl
end
def xM{P:Program}{t e sz:Nat}{b:Bool}{tag:Tag}{α:Type}(f:α->AV)(l:List α)(hu:P.underlying t=some (.slice e))(a:eO P e=some (b,sz))(c:∀x,(f x).cells.length=sz):o8 P t (.slice tag (l.map f)) none (some (.sc (.int .i64 (Go.fB.di l)))) (some (.sc (.int .i64 (Go.fB.di l))))=some (.slice .full (l.map f)):=by
 have h:jq sz (l.map f)=true:=by
  cases l with
  |nil=>rfl|cons x l=>simp[jq,c x]
 simp[o8,Mh,hu,a,h,Go.fB.di,<-List.map_take]
def sw{α:Type}(f:α->AV)(l:List (Int×α)):AV:=.td (l.map λp=>Value.int .i64 p.1) (l.map λp=>f p.2)
@[simp] theorem aac{α:Type}(f:α->AV):sw f []=.td [] []:=rfl
def RL{α:Type}(l:List (Int×α))(k:Int):mapIdx (l.map λp=>Value.int .i64 p.1) (.int .i64 k)=l.findIdx? (λp=>p.1==k):=by
 unfold mapIdx;rw[List.findIdx?_map];rfl
def PD{α:Type}(l:List (Int×α)):(l.map λp=>Value.int .i64 p.1).all (Fq (.int .i64))=true:=by
 rw[j7];intro x a;obtain⟨p,_,rfl⟩:=l8.1 a;rfl
def Lf{α:Type}(f:α->AV):∀(l:List (Int×α)) (k:Int) (y:α),DB (l.map λp=>Value.int .i64 p.1) (l.map λp=>f p.2) (.int .i64 k) (f y)=sw f (uX l k y)
 |[],k,y=>rfl|p::l,k,y=>by
  have a:=Lf f l k y;unfold DB at a|-;rw[RL] at a|-;rw[Q5];unfold uX
  by_cases h:p.1=k
  ·subst h;simp[sw]
  ·rw[cK (by simpa using h),cK h];cases hi:l.findIdx? (λp=>p.1==k)with
   |none=>
    rw[hi] at a;simp only[sw,AV.td.injEq] at a;simp[sw,<-a.1,<-a.2]
   |some j=>
    rw[hi] at a;simp only[sw,AV.td.injEq] at a;simp[sw,<-a.1,<-a.2]
section
variable{P:Program} {t kt e:TypeId} {o:Nat} {k:Int} {α:Type} {f:α->AV} {d:Option Nat} {K:Fr->cW->Prop} {fr:Fr} {H:cW}
def th.i64(l:List (Int×α))(y:α){v:AV}(hu:P.underlying t=some (.map kt e))(a:P.underlying kt=some (.int .i64))(b:H[o]?=some [sw f l])(c:v.norm=f y)(d:K fr (dH H o [sw f (uX l k y)])):rX P t (.mU o) (.sc (.int .i64 k)) v K fr H:=by
 unfold rX;simp only[hu,a,b];refine⟨rfl,PD l,?_⟩;rw[c,Lf];exact d
end
end Go.ke
