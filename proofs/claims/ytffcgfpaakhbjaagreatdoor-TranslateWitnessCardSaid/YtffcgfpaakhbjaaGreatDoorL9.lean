/- Part of the proof of TranslateWitness: layer. -/
import Derived.Test.YtffcgfpaakhbjaaGreatDoorL8
set_option linter.all false
namespace Go.jX
open Go Go.dF
def yY(P:Program)(t:TypeId)(s x:AV)(d:Nat)(K:Fr->cd->Prop)(fr:Fr)(H:cd):Prop:=
 match ng P t,s,x with
 |some (_,sz),.slice tag l,.slice _ m=>
  iU sz l=true/\iU sz m=true/\l.length+m.length<=gN/\(if m_ fr tag l then K (grown fr d tag l m) H else m=[]/\K (fr.put (some d) (.slice .ja l)) H)
 |_,_,_=>False
def zM{P:Program}{T:cW}{x y:Operand}{t d:Nat}{K:Fr->cd->Prop}{fr:Fr}{H:cd}:ld P T {callee:=.builtin .append,args:=#[x,y],argTypes:=#[t,t]} (some d) K fr H=yY P t (ev T fr x) (ev T fr y) d K fr H:=by
 unfold ld yY;simp only;cases ng P t with
 |none=>rfl|some p=>
  obtain⟨e,sz⟩:=p;cases ev T fr x<;>cases ev T fr y<;>simp only[zE]
def PF(P:Program)(t:TypeId)(s x:AV)(d:Nat)(K:Fr->cd->Prop)(fr:Fr)(H:cd):Prop:=
 match ng P t,x with
 |some (e,sz),.slice _ m=>
  iU sz m=true/\(fV P e).isSome=true/\0<m.length/\match s with
  |.slice .full l=>iU sz l=true/\l.length+m.length<=gN/\∀cap,l.length+m.length<=cap->K (wD fr d (l.flatMap AV.cells++m.flatMap AV.cells++pR ((cap-(l.length+m.length))*sz)) (l.length+m.length) cap) H|.tB b g len cap=>g=fr.gen b/\len+m.length<=gN/\match fr.box b with
   |some cs=>cs.length=cap*sz/\(len+m.length<=cap->K {fr with env:=eH fr.env d (.tB b g (len+m.length) cap),box:=eH fr.box b (some (setCells cs (len*sz) (m.flatMap AV.cells)))} H)/\(∀a,cap<len+m.length->len+m.length<=a->K (wD fr d (cs.take (len*sz)++m.flatMap AV.cells++pR ((a-(len+m.length))*sz)) (len+m.length) a) H)|none=>False
  |_=>False
 |_,_=>False
def LR{P:Program}{T:cW}{x y:Operand}{t d:Nat}{K:Fr->cd->Prop}{fr:Fr}{H:cd}:A0 P T {callee:=.builtin .append,args:=#[x,y],argTypes:=#[t,t]} (some d) K fr H=PF P t (ev T fr x) (ev T fr y) d K fr H:=by
 unfold A0 PF;simp only;cases ng P t with
 |none=>rfl|some p=>
  obtain⟨e,sz⟩:=p;cases ev T fr y<;>simp only[zE];cases ev T fr x<;>rfl
def Ji(P:Program)(t:TypeId)(s x:AV)(d:Nat)(K:Fr->cd->Prop)(fr:Fr)(H:cd):Prop:=
 match ng P t,x with
 |some (e,sz),.slice _ m=>
  iU sz m=true/\(fV P e).isSome=true/\0<m.length/\match s with
  |.slice .full l=>iU sz l=true/\l.length+m.length<=gN/\∀cap,l.length+m.length<=cap->K (fr.put (some d) (.nU H.length 0 (l.length+m.length) cap)) (H++[l.flatMap AV.cells++m.flatMap AV.cells++pR ((cap-(l.length+m.length))*sz)])|.B4=>m.length<=gN/\∀cap,m.length<=cap->K (fr.put (some d) (.nU H.length 0 m.length cap)) (H++[m.flatMap AV.cells++pR ((cap-m.length)*sz)])|.nU o off len cap=>off=0/\len+m.length<=gN/\match H[o]?with
   |some cs=>lT cs=true/\cs.length=cap*sz/\(len+m.length<=cap->K (fr.put (some d) (.nU o 0 (len+m.length) cap)) (H.set o (setCells cs (len*sz) (m.flatMap AV.cells))))/\(∀a,cap<len+m.length->len+m.length<=a->K (fr.put (some d) (.nU H.length 0 (len+m.length) a)) (H++[cs.take (len*sz)++m.flatMap AV.cells++pR ((a-(len+m.length))*sz)]))|none=>False
  |_=>False
 |_,_=>False
def zL{P:Program}{T:cW}{x y:Operand}{t d:Nat}{K:Fr->cd->Prop}{fr:Fr}{H:cd}:m4 P T {callee:=.builtin .append,args:=#[x,y],argTypes:=#[t,t]} (some d) K fr H=Ji P t (ev T fr x) (ev T fr y) d K fr H:=by
 unfold m4 Ji;simp only;cases ng P t with
 |none=>rfl|some p=>
  obtain⟨e,sz⟩:=p;cases ev T fr y<;>simp only[zE];cases ev T fr x<;>rfl
def qy(P:Program)(t:TypeId)(s x:AV)(d:Nat)(K:Fr->cd->Prop)(fr:Fr)(H:cd):Prop:=(yY P t s x d K fr H\/PF P t s x d K fr H)\/Ji P t s x d K fr H
def HU{P:Program}{T:cW}{x y:Operand}{t d:Nat}{K:Fr->cd->Prop}{fr:Fr}{H:cd}:An P T {callee:=.builtin .append,args:=#[x,y],argTypes:=#[t,t]} (some d) K fr H=False:=by
 refine propext ⟨λh=>?_,False.elim⟩;unfold An at h;simp only at h
 split at h
 ·rename_i b a _ _;obtain⟨_,_,hu,_⟩:=k7 b;rw[hu] at a;cases a
 ·exact h
def hD(rq:Nat->Option Nat)(ds:Nat->Nat)(D:List Nat)(tag:Tag)(n:Nat):Prop:=
 tag=.full\/∃k g,k∈D/\tag=.loc k g/\g=ds k/\rq k=some n
def hD.full{rq:Nat->Option Nat}{ds:Nat->Nat}{D:List Nat}{n:Nat}:hD rq ds D .full n:=.inl rfl
def hD.new{rq:Nat->Option Nat}{ds:Nat->Nat}{D:List Nat}{n d:Nat}(h:d∈D):hD (eH rq d (some n)) (eH ds d (ds d+1)) D (.loc d (ds d+1)) n:=
 .inr ⟨d,_,h,rfl,by simp[eH],by simp[eH]⟩
def hD.other{rq:Nat->Option Nat}{ds:Nat->Nat}{D D':List Nat}{tag tag':Tag}{n n' d:Nat}{x:Option Nat}{y:Nat}(h:hD rq ds D tag n)(i:hD rq ds D' tag' n')
  (j:∀k,k∈D->k∉D') (e:d∉D):hD (eH (r' tag' rq) d x) (eH ds d y) D tag n:=by
 rcases h with h|⟨k,g,a,l,m,f⟩
 ·exact .inl h
 ·refine .inr ⟨k,g,a,l,?_,?_⟩
  ·have:k≠d:=by rintro rfl;exact e a
   simp[eH,this,m]
  ·have b:k≠d:=by rintro rfl;exact e a
   simp only[eH,b,fG];rcases i with rfl|⟨k',o,c,rfl,_,_⟩
   ·exact f
   ·have:k≠k':=by rintro rfl;exact j k a c
    simp[r',eH,this,f]
def hD.can{fr:Fr}{D:List Nat}{tag:Tag}{l:List AV}{n:Nat}(h:hD fr.rq fr.ds D tag n)(hn:n=l.length):m_ fr tag l=true:=by
 subst hn;rcases h with rfl|⟨k,g,_,rfl,a,b⟩
 ·rfl
 ·simp[m_,a,b]
def yY.own{P:Program}{t e sz d:Nat}{s x:AV}{K:Fr->cd->Prop}{fr:Fr}{H:cd}{α:Type}{f:α->AV}(l m:List α){D:List Nat}{tag tag':Tag}
  (h:hD fr.rq fr.ds D tag l.length) (c:ng P t=some (e,sz)) (g:∀x,(f x).cells.length=sz) (hlen:dP l m=true) (hs:s=.slice tag (l.map f)) (i:x=.slice tag' (m.map f))
  (j:K {fr with env:=eH fr.env d (.slice (.loc d (fr.ds d+1)) ((dN l m).map f)),rq:=eH (r' tag fr.rq) d (some (dN l m).length),ds:=eH fr.ds d (fr.ds d+1)} H):yY P t s x d K fr H:=by
 subst hs;subst i;have k:=KI hlen
 have b:∀l:List α,iU sz (l.map f)=true:=λl=>by cases l with|nil=>rfl|cons a l=>simp[iU,g]
 unfold yY;rw[c];refine⟨b l,b m,by simpa[gN,yX] using k,?_⟩;rw[bX (h.can th)]
 have n:l.map f++m.map f=(dN l m).map f:=by simp[dN]
 have o:(l.map f).length+(m.map f).length=(dN l m).length:=by simp[xb]
 unfold grown;rw[n,o];exact j
def qy.own{P:Program}{t e sz d:Nat}{s x:AV}{K:Fr->cd->Prop}{fr:Fr}{H:cd}{α:Type}{f:α->AV}(l m:List α){D:List Nat}{tag tag':Tag}
  (h:hD fr.rq fr.ds D tag l.length) (a:ng P t=some (e,sz)) (b:∀x,(f x).cells.length=sz) (hlen:dP l m=true) (hs:s=.slice tag (l.map f)) (c:x=.slice tag' (m.map f))
  (g:K {fr with env:=eH fr.env d (.slice (.loc d (fr.ds d+1)) ((dN l m).map f)),rq:=eH (r' tag fr.rq) d (some (dN l m).length),ds:=eH fr.ds d (fr.ds d+1)} H):qy P t s x d K fr H:=
 .inl (.inl (yY.own l m h a b hlen hs c g))
def gZ(P:Program)(T:cW)(E:List Nat)(ops:Array Oper)(a:AV)(as:List AV)(d:Option Nat)(rest:List Oper)(K:Fr->cd->Prop)(fr:Fr)(H:cd):Prop:=
 jo P T a as H λr H'=>fl P T E ops rest K (fr.put d r) H'
def Sz{P:Program}{T:cW}{q:Qt}{soft:Bool}{a:AV}{as:List AV}{d:Option Nat}{K:Fr->cd->Prop}{fr:Fr}{H H':cd}{r:AV}(h:uY P T a as H r H')(b:soft=true->QK q H H')(c:K (fr.put d r) H'):Wl P T q soft a as d K fr H:=
 ⟨_,h,⟨r,H',rfl,rfl⟩,λg i ⟨e,f⟩=>by subst e;subst f;exact⟨b,c⟩⟩
section
variable{P:Program} {T:cW} {E:List Nat} {ops:Array Oper} {q:Qt} {rest:List Oper} {K:Fr->cd->Prop} {fr:Fr} {H H':cd} {d:Option Nat} {ty:TypeId} {pos:String} {after:Array Edge}
def gZ.fn{g:FuncId}{as:List AV}{r:AV}(h:dB P T g as H r H')(a:fl P T E ops rest K (fr.put d r) H'):gZ P T E ops (.func (.func g) [] []) as d rest K fr H:=by
 unfold gZ jo;simp only[mw,wB];exact h.post a
def gZ.QU{g:FuncId}{fi ca as a:List AV}{r:AV}(b:fi++as++ca=a)(h:dB P T g a H r H')(c:fl P T E ops rest K (fr.put d r) H'):gZ P T E ops (.func (.func g) fi ca) as d rest K fr H:=by
 subst b;unfold gZ jo;exact h.post c
def gZ.fnP{g:FuncId}{as:List AV}{Post:AV->cd->Prop}(h:du P T g as H Post)(a:∀r H',Post r H'->fl P T E ops rest K (fr.put d r) H'):gZ P T E ops (.func (.func g) [] []) as d rest K fr H:=by
 unfold gZ jo;simp only[mw,wB];exact h.mono a
@[simp] theorem ZG:fl P T E ops [] K fr H=K fr H:=rfl
@[simp] theorem Xv{x:Operand}:fl P T E ops ({dst:=d,op:=.move x,type:=ty,pos:=pos,after:=after,guard:=none}::rest) K fr H=fl P T E ops rest K (fr.put d (ev T fr x)) H:=rfl
@[simp] theorem Uq{x:Operand}:fl P T E ops ({dst:=d,op:=.assign x,type:=ty,pos:=pos,after:=after,guard:=none}::rest) K fr H=fl P T E ops rest K (fr.put d (ev T fr x)) H:=rfl
@[simp] theorem U7{t:TypeId}:fl P T E ops ({dst:=d,op:=.alloc t,type:=ty,pos:=pos,after:=after,guard:=none}::rest) K fr H=match fV P t with|some z=>iS E d z (fl P T E ops rest K) fr H|none=>False:=rfl
@[simp] theorem Zw{t:TypeId}{x:Operand}:fl P T E ops ({dst:=d,op:=.box t x,type:=ty,pos:=pos,after:=after,guard:=none}::rest) K fr H=(dj (ev T fr x)=true/\iS E d (ev T fr x).cells (fl P T E ops rest K) fr H):=rfl
@[simp] theorem X1{t:TypeId}{x:Operand}:fl P T E ops ({dst:=d,op:=.load t x,type:=ty,pos:=pos,after:=after,guard:=none}::rest) K fr H=match rN P fr H t (ev T fr x)with|some v=>fl P T E ops rest K (fr.put d v) H|none=>False:=rfl
@[simp] theorem W0{t:TypeId}{x y:Operand}:fl P T E ops ({dst:=none,op:=.store t x y,type:=ty,pos:=pos,after:=after,guard:=none}::rest) K fr H=j0 P t (ev T fr x) (ev T fr y) (fl P T E ops rest K) fr H:=by simp[fl,Ch,o_]
@[simp] theorem Pl{t n:Nat}{ps:Array (Nat×Operand)}:fl P T E ops ({dst:=d,op:=.buildSlice t n ps,type:=ty,pos:=pos,after:=after,guard:=none}::rest) K fr H=match k8 P t n (ps.toList.map λp=>(p.1,ev T fr p.2))with|some v=>Ed E d v (fl P T E ops rest K) fr H|none=>False:=rfl
@[simp] theorem X2{E:List Nat}{d:Option Nat}{v:AV}{K:Fr->cd->Prop}{fr:Fr}{H:cd}:Ed E d v K fr H=if d.any E.contains then(match v with|.slice _ l=>K (fr.put d (.nU H.length 0 l.length l.length)) (H++[l.flatMap AV.cells])|_=>False)else K (fr.put d v) H:=rfl
@[simp] theorem TP{x y:Operand}{t d:Nat}:fl P T E ops ({dst:=some d,op:=.call {callee:=.builtin .append,args:=#[x,y],argTypes:=#[t,t]},type:=ty,pos:=pos,after:=after,guard:=none}::rest) K fr H=qy P t (ev T fr x) (ev T fr y) d (fl P T E ops rest K) fr H:=by
 simp only[fl,Ch,o_];unfold qy;rw[<-zM (T:=T),<-LR (T:=T),<-zL (T:=T),HU,false_or]
@[simp] theorem Xf{f:Operand}{as:Array Operand}{ts:Array TypeId}:fl P T E ops ({dst:=d,op:=.call {callee:=.value f,args:=as,argTypes:=ts},type:=ty,pos:=pos,after:=after,guard:=none}::rest) K fr H=gZ P T E ops (ev T fr f) (as.toList.map λx=>(ev T fr x).norm) d rest K fr H:=rfl
@[simp] theorem Zj{as:Array Operand}{ts:Array TypeId}:fl P T E ops ({dst:=d,op:=.call {callee:=.builtin .len,args:=as,argTypes:=ts},type:=ty,pos:=pos,after:=after,guard:=none}::rest) K fr H=match rO P T fr {callee:=.builtin .len,args:=as,argTypes:=ts}with|some v=>fl P T E ops rest K (fr.put d v) H|none=>False:=rfl
@[simp] theorem YS{as:Array Operand}{ts:Array TypeId}:fl P T E ops ({dst:=d,op:=.call {callee:=.builtin .max,args:=as,argTypes:=ts},type:=ty,pos:=pos,after:=after,guard:=none}::rest) K fr H=match rO P T fr {callee:=.builtin .max,args:=as,argTypes:=ts}with|some v=>fl P T E ops rest K (fr.put d v) H|none=>False:=rfl
@[simp] theorem YC{as:Array Operand}{ts:Array TypeId}:fl P T E ops ({dst:=d,op:=.call {callee:=.builtin .min,args:=as,argTypes:=ts},type:=ty,pos:=pos,after:=after,guard:=none}::rest) K fr H=match rO P T fr {callee:=.builtin .min,args:=as,argTypes:=ts}with|some v=>fl P T E ops rest K (fr.put d v) H|none=>False:=rfl
@[simp] theorem Xs{c a b:Operand}:fl P T E ops ({dst:=d,op:=.pick c a b,type:=ty,pos:=pos,after:=after,guard:=none}::rest) K fr H=match vb P T fr {dst:=d,op:=.pick c a b,type:=ty,pos:=pos,after:=after,guard:=none}with|some v=>fl P T E ops rest K (fr.put d v) H|none=>False:=rfl
@[simp] theorem V5{t:TypeId}{ps:Array (Nat×Operand)}:fl P T E ops ({dst:=d,op:=.build t ps,type:=ty,pos:=pos,after:=after,guard:=none}::rest) K fr H=match BC P t (ps.toList.map λp=>(p.1,ev T fr p.2))with|some v=>fl P T E ops rest K (fr.put d v) H|none=>False:=rfl
@[simp] theorem WK{o:BinOp}{t u:TypeId}{x y:Operand}:fl P T E ops ({dst:=d,op:=.binOp o t x y u,type:=ty,pos:=pos,after:=after,guard:=none}::rest) K fr H=match CM P o t y (ev T fr x) (ev T fr y)with|some v=>fl P T E ops rest K (fr.put d v) H|none=>False:=rfl
@[simp] theorem XZ{o:UnOp}{t:TypeId}{x:Operand}:fl P T E ops ({dst:=d,op:=.unOp o t x,type:=ty,pos:=pos,after:=after,guard:=none}::rest) K fr H=match XO o (ev T fr x)with|some v=>fl P T E ops rest K (fr.put d v) H|none=>False:=rfl
@[simp] theorem SG{s t:TypeId}{x:Operand}:fl P T E ops ({dst:=d,op:=.convert s t x,type:=ty,pos:=pos,after:=after,guard:=none}::rest) K fr H=IW P d s t (ev T fr x) (fl P T E ops rest K) fr H:=rfl
@[simp] theorem Zh{s t:TypeId}{d:Option Nat}{x:AV}{K:Fr->cd->Prop}{fr:Fr}{H:cd}:IW P d s t x K fr H=match Jg P s t x with
 |some v=>K (fr.put d v) H|none=>match P.underlying s,P.underlying t,x with
  |some .string,some (.slice e),.sc (.string y)=>P.underlying e=some (.int .u8)/\y.size<=gN/\∀cap k,y.size<=cap->K (fr.put d (.nU H.length 0 y.size cap)) (H++[m9 y++pR k])|_,_,_=>False:=rfl
@[simp] theorem RO{fn:Fn}{f c:Array Operand}:fl P T E ops ({dst:=d,op:=.makeFunc fn f c,type:=ty,pos:=pos,after:=after,guard:=none}::rest) K fr H=fl P T E ops rest K (fr.put d (.func fn (f.toList.map λx=>(ev T fr x).norm) (c.toList.map λx=>(ev T fr x).norm))) H:=rfl
@[simp] theorem Q4{t i:Nat}{x:Operand}:fl P T E ops ({dst:=d,op:=.fieldAddr t x i,type:=ty,pos:=pos,after:=after,guard:=none}::rest) K fr H=match qH P t (ev T fr x) i with|some v=>fl P T E ops rest K (fr.put d v) H|none=>False:=rfl
@[simp] theorem VV{t i:Nat}{x:Operand}:fl P T E ops ({dst:=d,op:=.field t x i,type:=ty,pos:=pos,after:=after,guard:=none}::rest) K fr H=match BD P t (ev T fr x) i with|some v=>fl P T E ops rest K (fr.put d v) H|none=>False:=rfl
@[simp] theorem Qh{t:TypeId}{x i:Operand}:fl P T E ops ({dst:=d,op:=.indexAddr t x i,type:=ty,pos:=pos,after:=after,guard:=none}::rest) K fr H=match gl P t (ev T fr x) (ev T fr i)with|some v=>fl P T E ops rest K (fr.put d v) H|none=>False:=rfl
@[simp] theorem V_{t:TypeId}{x i:Operand}:fl P T E ops ({dst:=d,op:=.index t x i,type:=ty,pos:=pos,after:=after,guard:=none}::rest) K fr H=match EJ P t (ev T fr x) (ev T fr i)with|some v=>fl P T E ops rest K (fr.put d v) H|none=>False:=rfl
@[simp] theorem Vi{t:TypeId}{x:Operand}{lo hi a:Option Operand}:fl P T E ops ({dst:=d,op:=.slice t x lo hi a,type:=ty,pos:=pos,after:=after,guard:=none}::rest) K fr H=match vV P t (ev T fr x) (lo.map (ev T fr)) (hi.map (ev T fr)) (a.map (ev T fr))with|some v=>fl P T E ops rest K (fr.put d v) H|none=>False:=rfl
@[simp] theorem Tb{i:Nat}{x:Operand}:fl P T E ops ({dst:=d,op:=.extract x i,type:=ty,pos:=pos,after:=after,guard:=none}::rest) K fr H=match vb P T fr {dst:=d,op:=.extract x i,type:=ty,pos:=pos,after:=after,guard:=none}with|some v=>fl P T E ops rest K (fr.put d v) H|none=>False:=rfl
@[simp] theorem RZ{x:Operand}:fl P T E ops ({dst:=d,op:=.nilCheck x,type:=ty,pos:=pos,after:=after,guard:=none}::rest) K fr H=match vb P T fr {dst:=d,op:=.nilCheck x,type:=ty,pos:=pos,after:=after,guard:=none}with|some v=>fl P T E ops rest K (fr.put d v) H|none=>False:=rfl
@[simp] theorem Pe{t a:TypeId}{x:Operand}:fl P T E ops ({dst:=d,op:=.typeAssert x a t true,type:=ty,pos:=pos,after:=after,guard:=none}::rest) K fr H=match Dx P t (ev T fr x)with|some v=>fl P T E ops rest K (fr.put d v) H|none=>False:=rfl
@[simp] theorem My{t:TypeId}{x:Operand}:fl P T E ops ({dst:=d,op:=.makeInterface t x,type:=ty,pos:=pos,after:=after,guard:=none}::rest) K fr H=match vb P T fr {dst:=d,op:=.makeInterface t x,type:=ty,pos:=pos,after:=after,guard:=none}with|some v=>fl P T E ops rest K (fr.put d v) H|none=>False:=rfl
@[simp] theorem R9{t:TypeId}:fl P T E ops ({dst:=d,op:=.makeMap t none,type:=ty,pos:=pos,after:=after,guard:=none}::rest) K fr H=EW d (fl P T E ops rest K) fr H:=rfl
@[simp] theorem PD{t:TypeId}{x i y:Operand}:fl P T E ops ({dst:=none,op:=.mapUpdate t x i y,type:=ty,pos:=pos,after:=after,guard:=none}::rest) K fr H=vH P t (ev T fr x) (ev T fr i) (ev T fr y) (fl P T E ops rest K) fr H:=by simp[fl,Ch,o_]
@[simp] theorem UL{t:TypeId}{x:Operand}:fl P T E ops ({dst:=d,op:=.range t x,type:=ty,pos:=pos,after:=after,guard:=none}::rest) K fr H=DW P t (ev T fr x) d (fl P T E ops rest K) fr H:=rfl
@[simp] theorem WL{x:Operand}:fl P T E ops ({dst:=d,op:=.entry x,type:=ty,pos:=pos,after:=after,guard:=none}::rest) K fr H=match Bt (ev T fr x) H with|some v=>fl P T E ops rest K (fr.put d v) H|none=>False:=rfl
@[simp] theorem Pa{x:Operand}:fl P T E ops ({dst:=d,op:=.next x false,type:=ty,pos:=pos,after:=after,guard:=none}::rest) K fr H=He (ev T fr x) d (fl P T E ops rest K) fr H:=rfl
@[simp] theorem Vg{op:Op}{j:Nat}{want:Bool}:fl P T E ops ({dst:=d,op:=op,type:=ty,pos:=pos,after:=after,guard:=some (j,want)}::rest) K fr H=match(ops[j]?).bind (·.dst)with
 |some g=>match fr.env g with
  |.sc (.bool b)=>if b=want then fl P T E ops ({dst:=d,op:=op,type:=ty,pos:=pos,after:=after,guard:=none}::rest) K fr H else fl P T E ops rest K (fr.put d (.tuple [])) H|.tuple _=>fl P T E ops rest K (fr.put d (.tuple [])) H|_=>False
 |none=>False:=rfl
end
@[simp] theorem Fr.Zq(fr:Fr)(d:Nat)(x:AV):fr.put (some d) x={fr with env:=eH fr.env d x}:=rfl
@[simp] theorem Fr.ZD(fr:Fr)(x:AV):fr.put none x=fr:=rfl
@[simp] theorem aam{α:Type}(f:Nat->α)(i:Nat)(x:α)(j:Nat):eH f i x j=if j=i then x else f j:=rfl
@[simp] theorem TO:AV.cells (.undef:AV)=[(.undef:AV)]:=rfl
@[simp] theorem Qk:dj (.undef:AV)=true:=rfl
@[simp] theorem UE:AV.gS (.undef:AV)=(.undef:AV):=rfl
@[simp] theorem V6:AV.norm (.undef:AV)=(.undef:AV):=rfl
@[simp] theorem YG(v:Value):AV.cells (.sc v:AV)=[(.sc v:AV)]:=rfl
@[simp] theorem TZ(v:Value):dj (.sc v:AV)=true:=rfl
@[simp] theorem X'(v:Value):AV.gS (.sc v:AV)=(.sc v:AV):=rfl
@[simp] theorem aai(v:Value):AV.norm (.sc v:AV)=(.sc v:AV):=rfl
@[simp] theorem aau(P:Program)(ty:TypeId)(v:Value):tM P ty (.sc v:AV)=match dL P ty with|some (false,_)=>true|_=>false:=by
 unfold tM;cases dL P ty with
 |none=>rfl|some p=>obtain⟨b,k⟩:=p;cases b<;>rfl
@[simp] theorem VH(x:AV):AV.cells (.ji x:AV)=[(.ji x:AV)]:=rfl
@[simp] theorem RU(x:AV):dj (.ji x:AV)=true:=rfl
@[simp] theorem Vn(x:AV):AV.gS (.ji x:AV)=(.ji x:AV):=rfl
@[simp] theorem XC(x:AV):AV.norm (.ji x:AV)=(.ji x:AV):=rfl
@[simp] theorem UR(b g o:Nat):AV.cells (.gJ b g o:AV)=[(.gJ b g o:AV)]:=rfl
@[simp] theorem RT(b g o:Nat):dj (.gJ b g o:AV)=true:=rfl
@[simp] theorem WG(b g o:Nat):AV.gS (.gJ b g o:AV)=.undef:=rfl
@[simp] theorem Xx(b g o:Nat):AV.norm (.gJ b g o:AV)=.undef:=rfl
@[simp] theorem XB(b g o c:Nat):AV.cells (.tB b g o c:AV)=[(.tB b g o c:AV)]:=rfl
@[simp] theorem Sp(b g o c:Nat):dj (.tB b g o c:AV)=true:=rfl
@[simp] theorem Xp(b g o c:Nat):AV.gS (.tB b g o c:AV)=.undef:=rfl
@[simp] theorem ZV(b g o c:Nat):AV.norm (.tB b g o c:AV)=.undef:=rfl
@[simp] theorem V3(o f:Nat):AV.cells (.de o f:AV)=[(.de o f:AV)]:=rfl
@[simp] theorem RV(o f:Nat):dj (.de o f:AV)=true:=rfl
@[simp] theorem UT(o f:Nat):AV.gS (.de o f:AV)=(.de o f:AV):=rfl
@[simp] theorem XD(o f:Nat):AV.norm (.de o f:AV)=(.de o f:AV):=rfl
@[simp] theorem Vx(o:Nat):AV.cells (.nc o:AV)=[(.nc o:AV)]:=rfl
@[simp] theorem RS(o:Nat):dj (.nc o:AV)=true:=rfl
@[simp] theorem V8(o:Nat):AV.gS (.nc o:AV)=(.nc o:AV):=rfl
@[simp] theorem XF(o:Nat):AV.norm (.nc o:AV)=(.nc o:AV):=rfl
@[simp] theorem Xw(o s l c:Nat):AV.cells (.nU o s l c:AV)=[(.nU o s l c:AV)]:=rfl
@[simp] theorem Sa(o s l c:Nat):dj (.nU o s l c:AV)=true:=rfl
@[simp] theorem Xr(o s l c:Nat):AV.gS (.nU o s l c:AV)=(.nU o s l c:AV):=rfl
@[simp] theorem YT(o s l c:Nat):AV.norm (.nU o s l c:AV)=(.nU o s l c:AV):=rfl
@[simp] theorem X0(o s l c:Nat):AV.dW (.nU o s l c)=true:=rfl
@[simp] theorem Z3{P:Program}{t:TypeId}{b s n c:Nat}:Dp P t (.nU b s n c)=match P.underlying t with|some (.slice _)=>some (.sc (.int .i64 n))|some (.array n _)=>some (.sc (.int .i64 n))|_=>none:=by
 unfold Dp;cases P.underlying t with
 |none=>rfl|some y=>cases y<;>rfl
@[simp] theorem Qg{P:Program}{t:TypeId}{k:IntKind}{a:Int}{b s n c:Nat}:gl P t (.nU b s n c) (.sc (.int k a))=match P.underlying t with
  |some (.slice e)=>match dL P e with
   |some (_,sz)=>if 0<=a/\a<(n:Int)then some (.de b (s+a.toNat*sz))else none|none=>none
  |_=>none:=by
 unfold gl;cases P.underlying t with
 |none=>rfl|some y=>cases y<;>rfl
@[simp] theorem Xd:lT []=false:=rfl
@[simp] theorem U2(c:AV)(cs:List AV):lT (c::cs)=c.dW:=rfl
@[simp] theorem ZQ(v:Value):AV.dW (.sc v)=true:=rfl
@[simp] theorem U4(x:AV):AV.dW (.ji x)=true:=rfl
@[simp] theorem Wd(b g o:Nat):AV.dW (.gJ b g o)=true:=rfl
@[simp] theorem Vl(o f:Nat):AV.dW (.de o f)=true:=rfl
@[simp] theorem V1(o:Nat):AV.dW (.nc o)=true:=rfl
@[simp] theorem TQ(t:Tag)(l:List AV):AV.dW (.slice t l)=true:=rfl
@[simp] theorem Vh(f:Fn)(a c:List AV):AV.dW (.func f a c)=true:=rfl
@[simp] theorem Ur:AV.dW .undef=true:=rfl
@[simp] theorem Xg(b g l c:Nat):AV.dW (.tB b g l c)=true:=rfl
@[simp] theorem Uo(t:TypeId)(x:AV):AV.dW (.iface t x)=true:=rfl
@[simp] theorem TJ(t:Tag)(l:List AV):AV.cells (.slice t l:AV)=[(.slice t l:AV)]:=rfl
@[simp] theorem Qz(t:Tag)(l:List AV):dj (.slice t l:AV)=true:=rfl
@[simp] theorem T0(t:Tag)(l:List AV):AV.gS (.slice t l:AV)=.slice .ja l:=rfl
@[simp] theorem Vy(t:Tag)(l:List AV):AV.norm (.slice t l:AV)=.slice .ja l:=rfl
@[simp] theorem UK(P:Program)(ty:TypeId)(t:Tag)(l:List AV):tM P ty (.slice t l:AV)=match dL P ty with|some (false,_)=>true|_=>false:=by
 unfold tM;cases dL P ty with
 |none=>rfl|some p=>obtain⟨b,k⟩:=p;cases b<;>rfl
@[simp] theorem W_(cs:List AV):AV.cells (.agg cs:AV)=cs:=rfl
@[simp] theorem So(cs:List AV):dj (.agg cs:AV)=true:=rfl
@[simp] theorem Xh(cs:List AV):AV.gS (.agg cs:AV)=(.agg cs:AV):=rfl
@[simp] theorem ZF(cs:List AV):AV.norm (.agg cs:AV)=.agg (cs.map AV.gS):=rfl
@[simp] theorem wY(P:Program)(ty:TypeId)(cs:List AV):tM P ty (.agg cs)=match dL P ty with|some (true,n)=>cs.length==n|_=>false:=by
 unfold tM;cases dL P ty with
 |none=>rfl|some p=>obtain⟨b,k⟩:=p;cases b<;>rfl
@[simp] theorem Uc(cs:List AV):AV.cells (.tuple cs:AV)=[(.tuple cs:AV)]:=rfl
@[simp] theorem Qj(cs:List AV):dj (.tuple cs:AV)=false:=rfl
@[simp] theorem Un(cs:List AV):AV.gS (.tuple cs:AV)=(.tuple cs:AV):=rfl
@[simp] theorem Wu(cs:List AV):AV.norm (.tuple cs:AV)=(.tuple cs:AV):=rfl
@[simp] theorem VY(f:Fn)(a c:List AV):AV.cells (.func f a c:AV)=[(.func f a c:AV)]:=rfl
@[simp] theorem RR(f:Fn)(a c:List AV):dj (.func f a c:AV)=true:=rfl
@[simp] theorem WM(f:Fn)(a c:List AV):AV.gS (.func f a c:AV)=(.func f a c:AV):=rfl
@[simp] theorem XV(f:Fn)(a c:List AV):AV.norm (.func f a c:AV)=(.func f a c:AV):=rfl
@[simp] theorem TI(t:TypeId)(x:AV):AV.cells (.iface t x:AV)=[(.iface t x:AV)]:=rfl
@[simp] theorem Rq(t:TypeId)(x:AV):dj (.iface t x:AV)=true:=rfl
@[simp] theorem Ue(t:TypeId)(x:AV):AV.gS (.iface t x:AV)=(.iface t x:AV):=rfl
@[simp] theorem VF(t:TypeId)(x:AV):AV.norm (.iface t x:AV)=(.iface t x:AV):=rfl
@[simp] theorem Vt(sz:Nat):iU sz []=true:=rfl
@[simp] theorem T1(sz:Nat)(x:AV)(l:List AV):iU sz (x::l)=(x.cells.length==sz):=rfl
def dC(H:cd)(o:Nat)(c:List AV):cd:=H.set o c
@[simp] theorem XY{H:cd}{o:Nat}{x y:List AV}:dC (dC H o x) o y=dC H o y:=by simp[dC]
@[simp] theorem Ub{H:cd}{o:Nat}{x:List AV}:(dC H o x).length=H.length:=by simp[dC]
section
variable{P:Program} {t:TypeId} {k k':IntKind} {a b:Int} {u v:ByteArray} {p q:Bool}
@[simp] theorem Yl{i:Nat}{u v:AV}{op:BinOp}:CM P op t (.tmp i) u v=mV P op t u v:=rfl
@[simp] theorem ZC{i:Int}{u v:AV}{op:BinOp}:CM P op t (.const (.int k i)) u v=mV P op t u v:=rfl
@[simp] theorem XJ{i:Bool}{u v:AV}{op:BinOp}:CM P op t (.const (.bool i)) u v=mV P op t u v:=rfl
@[simp] theorem Yu{i:ByteArray}{u v:AV}{op:BinOp}:CM P op t (.const (.string i)) u v=mV P op t u v:=rfl
@[simp] theorem Y3{i:Option Addr}{u v:AV}{op:BinOp}:CM P op t (.const (.pointer i)) u v=mV P op t u v:=rfl
@[simp] theorem aaa{u v:AV}{op:BinOp}:CM P op t (.const .nilFunc) u v=mV P op t u v:=rfl
@[simp] theorem ZK{i:Option Nat}{u v:AV}{op:BinOp}:CM P op t (.const (.map i)) u v=mV P op t u v:=rfl
@[simp] theorem Yw:mV P .add t (.sc (.int k a)) (.sc (.int k b))=some (.sc (.int k (da k a b))):=by simp[mV,sU,ou,da]
@[simp] theorem Zn:mV P .sub t (.sc (.int k a)) (.sc (.int k b))=some (.sc (.int k (di k a b))):=by simp[mV,sU,ou,di]
@[simp] theorem Z4:mV P .mul t (.sc (.int k a)) (.sc (.int k b))=some (.sc (.int k (y9 k a b))):=by simp[mV,sU,ou,y9]
@[simp] theorem YF:mV P .rem t (.sc (.int k a)) (.sc (.int k b))=if G2 b then some (.sc (.int k (QA k a b)))else none:=by
 by_cases h:b=0<;>simp[mV,sU,ou,QA,G2,h]
@[simp] theorem Za:mV P .and t (.sc (.int k a)) (.sc (.int k b))=some (.sc (.int k (lX k a b))):=by simp[mV,sU,ou,lX]
@[simp] theorem aaj:mV P .or t (.sc (.int k a)) (.sc (.int k b))=some (.sc (.int k (tZ k a b))):=by simp[mV,sU,ou,tZ]
@[simp] theorem ZN:mV P .eql t (.sc (.int k a)) (.sc (.int k b))=some (.sc (.bool (cr a b))):=by simp[mV,sU,ou,cr]
@[simp] theorem Z6:mV P .neq t (.sc (.int k a)) (.sc (.int k b))=some (.sc (.bool (cG a b))):=by simp[mV,sU,ou,cG]
@[simp] theorem Y1:mV P .lss t (.sc (.int k a)) (.sc (.int k b))=some (.sc (.bool (tD a b))):=by simp[mV,sU,ou,tD]
@[simp] theorem ZH:mV P .leq t (.sc (.int k a)) (.sc (.int k b))=some (.sc (.bool (Dh a b))):=by simp[mV,sU,ou,Dh]
@[simp] theorem YM:mV P .gtr t (.sc (.int k a)) (.sc (.int k b))=some (.sc (.bool (m8 a b))):=by simp[mV,sU,ou,m8]
@[simp] theorem Yn:mV P .geq t (.sc (.int k a)) (.sc (.int k b))=some (.sc (.bool (qf a b))):=by simp[mV,sU,ou,qf]
@[simp] theorem aar:XO .not (.sc (.bool p))=some (.sc (.bool (mq p))):=by simp[XO,mq]
@[simp] theorem XX:M7 (.sc (.int k a)) (.sc (.int k' b))=some (.sc (.int k (imax a b))):=rfl
@[simp] theorem XQ:MS (.sc (.int k a)) (.sc (.int k' b))=some (.sc (.int k (O' a b))):=rfl
@[simp] theorem Yd{α:Type}{f:α->AV}{tag:Tag}{l:List α}:Dp P t (.slice tag (l.map f))=match P.underlying t with|some (.slice _)=>some (.sc (.int .i64 (cE l)))|some (.array n _)=>some (.sc (.int .i64 n))|_=>none:=by
 unfold Dp cE;cases P.underlying t with
 |none=>rfl|some y=>cases y<;>simp
@[simp] theorem X5{tag:Tag}:Dp P t (.slice tag [])=match P.underlying t with|some (.slice _)=>some (.sc (.int .i64 0))|some (.array n _)=>some (.sc (.int .i64 n))|_=>none:=by
 unfold Dp;cases P.underlying t with
 |none=>rfl|some y=>cases y<;>rfl
@[simp] theorem P7{α:Type}{f:α->AV}{tag:Tag}{l:List α}:gl P t (.slice tag (l.map f)) (.sc (.int k a))=match P.underlying t with
  |some (.slice e)=>match cq l a,dL P e with
   |some x,some (_,sz)=>if(f x).cells.length=sz then some (.ji (f x))else none|_,_=>none
  |_=>none:=by
 unfold gl cq;cases P.underlying t with
 |none=>rfl|some y=>
  cases y<;>try rfl
  rename_i e;simp only[rS]
  by_cases h:0<=a
  ·rw[bX h,bX h];cases l[a.toNat]?with
   |none=>rfl|some x=>cases dL P e<;>rfl
  ·rw[bV h,bV h]
def Ex{α:Type}{f:α->AV}{L:List α}{n e:Nat}(hu:P.underlying t=some (.array n e))(c:dL P e=some (false,1))(hn:L.length=n):gl P t (.ji (.agg (L.map f))) (.sc (.int k a))=(cq L a).map λx=>.ji (f x):=by
 unfold gl cq;simp only[hu,c,Tn];unfold kD;simp only[c,AV.cells]
 by_cases h:0<=a
 ·rw[bX h]
  by_cases d:a<n
  ·rw[bX ⟨h,d⟩];simp only[rS];cases L[a.toNat]?<;>rfl
  ·rw[bV (λb=>d b.2),Rv cw];rfl
 ·rw[bV h,bV (λb=>h b.1)];rfl
end
attribute [simp] ev ofValue oq vO iS EW rN kD qH BD BC CG k8 setCells AG Hf rO vb
 oP BT rootOf isG Zl J8 GA tA AH
@[simp] theorem UC{P:Program}{t:TypeId}{b g off:Nat}{v:AV}{K:Fr->cd->Prop}{fr:Fr}{H:cd}:j0 P t (.gJ b g off) v K fr H=match dL P t with
  |none=>False|some (_,n)=>match fr.box b with
   |some cs=>g=fr.gen b/\v.cells.length=n/\off+n<=cs.length/\dj v=true/\K {fr with box:=eH fr.box b (some (setCells cs off v.cells))} H|none=>False:=by
 unfold j0;cases dL P t with
 |none=>rfl|some p=>rfl
@[simp] theorem T2{P:Program}{t:TypeId}{o off:Nat}{v:AV}{K:Fr->cd->Prop}{fr:Fr}{H:cd}:j0 P t (.de o off) v K fr H=match dL P t with
  |none=>False|some (_,n)=>match H[o]?with
   |some cs=>lT cs=true/\v.cells.length=n/\off+n<=cs.length/\dj v=true/\K fr (H.set o (setCells cs off v.norm.cells))|none=>False:=by
 unfold j0;cases dL P t with
 |none=>rfl|some p=>rfl
def fb.M8{P:Program}{T:cW}{n:Nat}{Q:Exit->Fr->cd->Prop}{fr:Fr}{H:cd}{c:Code}(I:Nat->Fr->cd->Prop)(m:Nat)(g:I m fr H)
  (h:∀m fr H,I m fr H->∀K:Fr->cd->Prop,(∀fr' H' a,a<m->I a fr' H'->K fr' H')->fb P T n c (AH K Q) fr H):fb P T n (.loop c) Q fr H:=by
 refine fb.loop ?_
 have key:∀k fr H,I k fr H->VO P T n c Q fr H:=by
  intro k
  induction k using Nat.strongRecOn with
  |_ k i=>
   intro fr H j;refine VO.round (fb.mono (h k fr H j (λfr' H'=>∃a,a<k/\I a fr' H') λfr' H' a b d=>⟨a,b,d⟩) ?_);intro e fr' H' f;cases e with
   |normal=>obtain⟨a,b,d⟩:=f;exact i a b fr' H' d
   |_=>exact f
 exact key m fr H g
def HV(v:AV)(A B:Prop):Prop:=match v with|.sc (.bool t)=>if t then A else B|_=>False
@[simp] theorem TY(t:Bool)(A B:Prop):HV (.sc (.bool t)) A B=if t then A else B:=rfl
section
variable{P:Program} {T:cW} {n:Nat} {Q:Exit->Fr->cd->Prop} {fr:Fr} {H:cd}
def fb.yM{c:Operand}{x y:Code}
  (h:∀A B:Fr->cd->Prop,(∀fr H,fb P T n x Q fr H->A fr H)->(∀fr H,fb P T n y Q fr H->B fr H)->HV (ev T fr c) (A fr H) (B fr H)) (d:gE c=true:=by rfl):fb P T n (.cond c x y) Q fr H:=by
 have a:=h (fb P T n x Q) (fb P T n y Q) (λ_ _ h=>h) (λ_ _ h=>h);generalize e:ev T fr c=v at a;cases v with
 |sc w=>
  cases w with
  |bool t=>
   refine fb.cond e d (λb=>?_) (λb=>?_)
   ·subst b;simpa using a
   ·subst b;simpa using a
  |_=>exact a.elim
 |_=>exact a.elim
def fb.sr{id:Nat}{ops:Array Oper}{y:Code}(E:List Nat)(h:∀K:Fr->cd->Prop,(∀fr H,fb P T n y Q fr H->K fr H)->fl P T E ops ops.toList K fr H)(a:xr n ops=true:=by decide+kernel):fb P T n (.seq (.region id ops false) y) Q fr H:=
 fb.zJ λK b=>fb.region E a (h K b)
def fb.X7{x y:Code}(R:Fr->cd->Prop)(b:∀K:Fr->cd->Prop,(∀fr H,R fr H->K fr H)->fb P T n x (AH K Q) fr H)(c:∀fr H,R fr H->fb P T n y Q fr H):fb P T n (.seq x y) Q fr H:=
 fb.seq ((b R λ_ _ h=>h).mono λe fr' H' a=>by cases e<;>first|exact c _ _ a|exact a)
end
@[simp] theorem range_one:List.range 1=[0]:=rfl
@[simp] theorem ZI:List.range 2=[0,1]:=rfl
@[simp] theorem Yg:List.range 3=[0,1,2]:=rfl
@[simp] theorem Zy:List.range 4=[0,1,2,3]:=rfl
@[simp] theorem Y5:List.range 5=[0,1,2,3,4]:=rfl
@[simp] theorem Yz:List.range 6=[0,1,2,3,4,5]:=rfl
@[simp] theorem Ya:List.range 7=[0,1,2,3,4,5,6]:=rfl
@[simp] theorem Zg:List.range 8=[0,1,2,3,4,5,6,7]:=rfl
@[simp] theorem Yt:List.range 9=[0,1,2,3,4,5,6,7,8]:=rfl
@[simp] theorem XR:List.range 10=[0,1,2,3,4,5,6,7,8,9]:=rfl
@[simp] theorem XW:List.range 11=[0,1,2,3,4,5,6,7,8,9,10]:=rfl
@[simp] theorem XN:List.range 12=[0,1,2,3,4,5,6,7,8,9,10,11]:=rfl
@[simp] theorem XK:List.range 13=[0,1,2,3,4,5,6,7,8,9,10,11,12]:=rfl
section
variable{P:Program} {t e sz:Nat} {bl:Bool} {tag:Tag} {α:Type} {k k' k2:IntKind} {a b:Int} {u:ByteArray}
end
def DN{P:Program}{t e sz:Nat}{b:Bool}{tag:Tag}{α:Type}(f:α->AV)(l:List α)(hu:P.underlying t=some (.slice e))(a:dL P e=some (b,sz))(c:∀x,(f x).cells.length=sz):vV P t (.slice tag (l.map f)) none (some (.sc (.int .i64 (Go.dF.cE l)))) (some (.sc (.int .i64 (Go.dF.cE l))))=some (.slice .full (l.map f)):=by
 have h:iU sz (l.map f)=true:=by
  cases l with
  |nil=>rfl|cons x l=>simp[iU,c x]
 simp[vV,PJ,hu,a,h,Go.dF.cE,<-List.map_take]
def qD{α:Type}(f:α->AV)(l:List (Int×α)):AV:=.uJ (l.map λp=>Value.int .i64 p.1) (l.map λp=>f p.2)
@[simp] theorem YU{α:Type}(f:α->AV):qD f []=.uJ [] []:=rfl
def QT{α:Type}(l:List (Int×α))(k:Int):mapIdx (l.map λp=>Value.int .i64 p.1) (.int .i64 k)=l.findIdx? (λp=>p.1==k):=by
 unfold mapIdx;rw[List.findIdx?_map];rfl
def N_{α:Type}(l:List (Int×α)):(l.map λp=>Value.int .i64 p.1).all (Jh (.int .i64))=true:=by
 rw[ie];intro x a;obtain⟨p,_,rfl⟩:=kI.1 a;rfl
def JY{α:Type}(f:α->AV):∀(l:List (Int×α)) (k:Int) (y:α),Fb (l.map λp=>Value.int .i64 p.1) (l.map λp=>f p.2) (.int .i64 k) (f y)=qD f (tj l k y)
 |[],k,y=>rfl|p::l,k,y=>by
  have a:=JY f l k y;unfold Fb at a|-;rw[QT] at a|-;rw[UU];unfold tj
  by_cases h:p.1=k
  ·subst h;simp[qD]
  ·rw[bV (by simpa using h),bV h];cases hi:l.findIdx? (λp=>p.1==k)with
   |none=>
    rw[hi] at a;simp only[qD,AV.uJ.injEq] at a;simp[qD,<-a.1,<-a.2]
   |some j=>
    rw[hi] at a;simp only[qD,AV.uJ.injEq] at a;simp[qD,<-a.1,<-a.2]
section
variable{P:Program} {t kt e:TypeId} {o:Nat} {k:Int} {α:Type} {f:α->AV} {d:Option Nat} {K:Fr->cd->Prop} {fr:Fr} {H:cd}
def Vw.i64(l:List (Int×α))(y:α){v:AV}(hu:P.underlying t=some (.map kt e))(a:P.underlying kt=some (.int .i64))(b:H[o]?=some [qD f l])(c:v.norm=f y)(d:K fr (dC H o [qD f (tj l k y)])):vH P t (.nc o) (.sc (.int .i64 k)) v K fr H:=by
 unfold vH;simp only[hu,a,b];refine⟨rfl,N_ l,?_⟩;rw[c,JY];exact d
end
end Go.jX
