/- Part of the proof of UniformExact, UniformAccepted: layer. -/
import Derived.Test.YtijednbpbbddbaaGreatDoorL8
set_option linter.all false
namespace Go.ns
open Go Go.ek
def Gl(P:Program)(t:TypeId)(s x:AV)(d:Nat)(K:Fr->dd->Prop)(fr:Fr)(H:dd):Prop:=
 match rp P t,s,x with
 |some (_,sz),.slice tag l,.slice _ m=>
  mN sz l=true/\mN sz m=true/\l.length+m.length<=mw/\(if sX fr tag l then K (grown fr d tag l m) H else m=[]/\K (fr.put (some d) (.slice .jU l)) H)
 |_,_,_=>False
def G6{P:Program}{T:ec}{x y:Operand}{t d:Nat}{K:Fr->dd->Prop}{fr:Fr}{H:dd}:qG P T {callee:=.builtin .append,args:=#[x,y],argTypes:=#[t,t]} (some d) K fr H=Gl P t (ev T fr x) (ev T fr y) d K fr H:=by
 unfold qG Gl;simp only;cases rp P t with
 |none=>rfl|some p=>
  obtain⟨e,sz⟩:=p;cases ev T fr x<;>cases ev T fr y<;>simp only[Hc]
def VM(P:Program)(t:TypeId)(s x:AV)(d:Nat)(K:Fr->dd->Prop)(fr:Fr)(H:dd):Prop:=
 match rp P t,x with
 |some (e,sz),.slice _ m=>
  mN sz m=true/\(hE P e).isSome=true/\0<m.length/\match s with
  |.slice .full l=>mN sz l=true/\l.length+m.length<=mw/\∀cap,l.length+m.length<=cap->K (CP fr d (l.flatMap AV.cells++m.flatMap AV.cells++BZ ((cap-(l.length+m.length))*sz)) (l.length+m.length) cap) H|.A3 b g len cap=>g=fr.gen b/\len+m.length<=mw/\match fr.box b with
   |some cs=>cs.length=cap*sz/\(len+m.length<=cap->K {fr with env:=ia fr.env d (.A3 b g (len+m.length) cap),box:=ia fr.box b (some (setCells cs (len*sz) (m.flatMap AV.cells)))} H)/\(∀a,cap<len+m.length->len+m.length<=a->K (CP fr d (cs.take (len*sz)++m.flatMap AV.cells++BZ ((a-(len+m.length))*sz)) (len+m.length) a) H)|none=>False
  |_=>False
 |_,_=>False
def T_{P:Program}{T:ec}{x y:Operand}{t d:Nat}{K:Fr->dd->Prop}{fr:Fr}{H:dd}:Ix P T {callee:=.builtin .append,args:=#[x,y],argTypes:=#[t,t]} (some d) K fr H=VM P t (ev T fr x) (ev T fr y) d K fr H:=by
 unfold Ix VM;simp only;cases rp P t with
 |none=>rfl|some p=>
  obtain⟨e,sz⟩:=p;cases ev T fr y<;>simp only[Hc];cases ev T fr x<;>rfl
def Zb(P:Program)(t:TypeId)(s x:AV)(d:Nat)(K:Fr->dd->Prop)(fr:Fr)(H:dd):Prop:=
 match rp P t,x with
 |some (e,sz),.slice _ m=>
  mN sz m=true/\(hE P e).isSome=true/\0<m.length/\match s with
  |.slice .full l=>mN sz l=true/\l.length+m.length<=mw/\∀cap,l.length+m.length<=cap->K (fr.put (some d) (.xx H.length 0 (l.length+m.length) cap)) (H++[l.flatMap AV.cells++m.flatMap AV.cells++BZ ((cap-(l.length+m.length))*sz)])|.KD=>m.length<=mw/\∀cap,m.length<=cap->K (fr.put (some d) (.xx H.length 0 m.length cap)) (H++[m.flatMap AV.cells++BZ ((cap-m.length)*sz)])|.xx o off len cap=>off=0/\len+m.length<=mw/\match H[o]?with
   |some cs=>w6 cs=true/\cs.length=cap*sz/\(len+m.length<=cap->K (fr.put (some d) (.xx o 0 (len+m.length) cap)) (H.set o (setCells cs (len*sz) (m.flatMap AV.cells))))/\(∀a,cap<len+m.length->len+m.length<=a->K (fr.put (some d) (.xx H.length 0 (len+m.length) a)) (H++[cs.take (len*sz)++m.flatMap AV.cells++BZ ((a-(len+m.length))*sz)]))|none=>False
  |_=>False
 |_,_=>False
def GY{P:Program}{T:ec}{x y:Operand}{t d:Nat}{K:Fr->dd->Prop}{fr:Fr}{H:dd}:sW P T {callee:=.builtin .append,args:=#[x,y],argTypes:=#[t,t]} (some d) K fr H=Zb P t (ev T fr x) (ev T fr y) d K fr H:=by
 unfold sW Zb;simp only;cases rp P t with
 |none=>rfl|some p=>
  obtain⟨e,sz⟩:=p;cases ev T fr y<;>simp only[Hc];cases ev T fr x<;>rfl
def w_(P:Program)(t:TypeId)(s x:AV)(d:Nat)(K:Fr->dd->Prop)(fr:Fr)(H:dd):Prop:=(Gl P t s x d K fr H\/VM P t s x d K fr H)\/Zb P t s x d K fr H
def PO{P:Program}{T:ec}{x y:Operand}{t d:Nat}{K:Fr->dd->Prop}{fr:Fr}{H:dd}:IB P T {callee:=.builtin .append,args:=#[x,y],argTypes:=#[t,t]} (some d) K fr H=False:=by
 refine propext ⟨λh=>?_,False.elim⟩;unfold IB at h;simp only at h
 split at h
 ·rename_i b a _ _;obtain⟨_,_,hu,_⟩:=ql b;rw[hu] at a;cases a
 ·exact h
def jj(yB:Nat->Option Nat)(fu:Nat->Nat)(D:List Nat)(tag:Tag)(n:Nat):Prop:=
 tag=.full\/∃k g,k∈D/\tag=.loc k g/\g=fu k/\yB k=some n
def jj.full{yB:Nat->Option Nat}{fu:Nat->Nat}{D:List Nat}{n:Nat}:jj yB fu D .full n:=.inl rfl
def jj.new{yB:Nat->Option Nat}{fu:Nat->Nat}{D:List Nat}{n d:Nat}(h:d∈D):jj (ia yB d (some n)) (ia fu d (fu d+1)) D (.loc d (fu d+1)) n:=
 .inr ⟨d,_,h,rfl,by simp[ia],by simp[ia]⟩
def jj.other{yB:Nat->Option Nat}{fu:Nat->Nat}{D D':List Nat}{tag a:Tag}{n n' d:Nat}{x:Option Nat}{y:Nat}(h:jj yB fu D tag n)(j:jj yB fu D' a n')
  (l:∀k,k∈D->k∉D') (f:d∉D):jj (ia (zm a yB) d x) (ia fu d y) D tag n:=by
 rcases h with h|⟨k,g,b,m,o,i⟩
 ·exact .inl h
 ·refine .inr ⟨k,g,b,m,?_,?_⟩
  ·have:k≠d:=by rintro rfl;exact f b
   simp[ia,this,o]
  ·have c:k≠d:=by rintro rfl;exact f b
   simp only[ia,c,jC];rcases j with rfl|⟨k',p,e,rfl,_,_⟩
   ·exact i
   ·have:k≠k':=by rintro rfl;exact l k b e
    simp[zm,ia,this,i]
def jj.can{fr:Fr}{D:List Nat}{tag:Tag}{l:List AV}{n:Nat}(h:jj fr.yB fr.fu D tag n)(hn:n=l.length):sX fr tag l=true:=by
 subst hn;rcases h with rfl|⟨k,g,_,rfl,a,b⟩
 ·rfl
 ·simp[sX,a,b]
def Gl.own{P:Program}{t e sz d:Nat}{s x:AV}{K:Fr->dd->Prop}{fr:Fr}{H:dd}{α:Type}{f:α->AV}(l m:List α){D:List Nat}{tag b:Tag}
  (h:jj fr.yB fr.fu D tag l.length) (g:rp P t=some (e,sz)) (i:∀x,(f x).cells.length=sz) (hlen:eM l m=true) (hs:s=.slice tag (l.map f)) (j:x=.slice b (m.map f))
  (k:K {fr with env:=ia fr.env d (.slice (.loc d (fr.fu d+1)) ((eV l m).map f)),yB:=ia (zm tag fr.yB) d (some (eV l m).length),fu:=ia fr.fu d (fr.fu d+1)} H):Gl P t s x d K fr H:=by
 subst hs;subst j;have n:=RD hlen
 have c:∀l:List α,mN sz (l.map f)=true:=λl=>by cases l with|nil=>rfl|cons a l=>simp[mN,i]
 unfold Gl;rw[g];refine⟨c l,c m,by simpa[mw,NS] using n,?_⟩;rw[cK (h.can aaB)]
 have o:l.map f++m.map f=(eV l m).map f:=by simp[eV]
 have p:(l.map f).length+(m.map f).length=(eV l m).length:=by simp[A']
 unfold grown;rw[o,p];exact k
def w_.own{P:Program}{t e sz d:Nat}{s x:AV}{K:Fr->dd->Prop}{fr:Fr}{H:dd}{α:Type}{f:α->AV}(l m:List α){D:List Nat}{tag a:Tag}
  (h:jj fr.yB fr.fu D tag l.length) (b:rp P t=some (e,sz)) (c:∀x,(f x).cells.length=sz) (hlen:eM l m=true) (hs:s=.slice tag (l.map f)) (g:x=.slice a (m.map f))
  (i:K {fr with env:=ia fr.env d (.slice (.loc d (fr.fu d+1)) ((eV l m).map f)),yB:=ia (zm tag fr.yB) d (some (eV l m).length),fu:=ia fr.fu d (fr.fu d+1)} H):w_ P t s x d K fr H:=
 .inl (.inl (Gl.own l m h b c hlen hs g i))
def nM(P:Program)(T:ec)(E:List Nat)(ops:Array Oper)(a:AV)(as:List AV)(d:Option Nat)(rest:List Oper)(K:Fr->dd->Prop)(fr:Fr)(H:dd):Prop:=
 qs P T a as H λr H'=>jH P T E ops rest K (fr.put d r) H'
def zE(P:Program)(T:ec)(E:List Nat)(ops:Array Oper)(q:Qt)(a:AV)(as:List AV)(d:Option Nat)(rest:List Oper)(K:Fr->dd->Prop)(fr:Fr)(H:dd):Prop:=
 if d.any E.contains then Xh P T q true a as d (kA P T E ops q rest K) fr H else∃r H',qC P T a as H r H'/\(QK q H H')/\kA P T E ops q rest K (fr.put d r) H'
def QG{P:Program}{T:ec}{q:Qt}{soft:Bool}{a:AV}{as:List AV}{d:Option Nat}{K:Fr->dd->Prop}{fr:Fr}{H H':dd}{r:AV}(h:qC P T a as H r H')(b:soft=true->QK q H H')(c:K (fr.put d r) H'):Xh P T q soft a as d K fr H:=
 ⟨_,h,⟨r,H',rfl,rfl⟩,λg i ⟨e,f⟩=>by subst e;subst f;exact⟨b,c⟩⟩
def zE.of{P:Program}{T:ec}{E:List Nat}{ops:Array Oper}{q:Qt}{rest:List Oper}{K:Fr->dd->Prop}{fr:Fr}{H H':dd}{d:Option Nat}{a:AV}{as:List AV}{r:AV}(h:qC P T a as H r H')(b:QK q H H')(c:kA P T E ops q rest K (fr.put d r) H'):zE P T E ops q a as d rest K fr H:=by
 unfold zE
 split
 ·exact QG h (λ_=>b) c
 ·exact⟨r,H',h,b,c⟩
section
variable{P:Program} {T:ec} {E:List Nat} {ops:Array Oper} {q:Qt} {rest:List Oper} {K:Fr->dd->Prop} {fr:Fr} {H H':dd} {d:Option Nat} {ty:TypeId} {pos:String} {after:Array Edge}
def nM.fn{g:FuncId}{as:List AV}{r:AV}(h:dY P T g as H r H')(a:jH P T E ops rest K (fr.put d r) H'):nM P T E ops (.func (.func g) [] []) as d rest K fr H:=by
 unfold nM qs;simp only[kW,zk];exact h.post a
def nM.VE{g:FuncId}{b c as a:List AV}{r:AV}(e:b++as++c=a)(h:dY P T g a H r H')(f:jH P T E ops rest K (fr.put d r) H'):nM P T E ops (.func (.func g) b c) as d rest K fr H:=by
 subst e;unfold nM qs;exact h.post f
def zE.fn{g:FuncId}{as:List AV}{r:AV}(h:dY P T g as H r H')(a:QK q H H')(b:kA P T E ops q rest K (fr.put d r) H'):zE P T E ops q (.func (.func g) [] []) as d rest K fr H:=by
 refine zE.of ?_ a b;unfold qC qs;simp only[kW,zk];exact h
@[simp] theorem aen:jH P T E ops [] K fr H=K fr H:=rfl
@[simp] theorem acX:kA P T E ops q [] K fr H=K fr H:=rfl
@[simp] theorem acU{x:Operand}:jH P T E ops ({dst:=d,op:=.move x,type:=ty,pos:=pos,after:=after,guard:=none}::rest) K fr H=jH P T E ops rest K (fr.put d (ev T fr x)) H:=rfl
@[simp] theorem Z_{x:Operand}:jH P T E ops ({dst:=d,op:=.assign x,type:=ty,pos:=pos,after:=after,guard:=none}::rest) K fr H=jH P T E ops rest K (fr.put d (ev T fr x)) H:=rfl
@[simp] theorem aaX{t:TypeId}:jH P T E ops ({dst:=d,op:=.alloc t,type:=ty,pos:=pos,after:=after,guard:=none}::rest) K fr H=match hE P t with|some z=>nq E d z (jH P T E ops rest K) fr H|none=>False:=rfl
@[simp] theorem adL{t:TypeId}{x:Operand}:jH P T E ops ({dst:=d,op:=.box t x,type:=ty,pos:=pos,after:=after,guard:=none}::rest) K fr H=(e9 (ev T fr x)=true/\nq E d (ev T fr x).cells (jH P T E ops rest K) fr H):=rfl
@[simp] theorem acf{t:TypeId}{x:Operand}:jH P T E ops ({dst:=d,op:=.load t x,type:=ty,pos:=pos,after:=after,guard:=none}::rest) K fr H=match yp P fr H t (ev T fr x)with|some v=>jH P T E ops rest K (fr.put d v) H|none=>False:=rfl
@[simp] theorem ab1{t:TypeId}{x y:Operand}:jH P T E ops ({dst:=none,op:=.store t x y,type:=ty,pos:=pos,after:=after,guard:=none}::rest) K fr H=o6 P t (ev T fr x) (ev T fr y) (jH P T E ops rest K) fr H:=by simp[jH,Ib,uZ]
@[simp] theorem VC{t n:Nat}{ps:Array (Nat×Operand)}:jH P T E ops ({dst:=d,op:=.buildSlice t n ps,type:=ty,pos:=pos,after:=after,guard:=none}::rest) K fr H=match qx P t n (ps.toList.map λp=>(p.1,ev T fr p.2))with|some v=>Nb E d v (jH P T E ops rest K) fr H|none=>False:=rfl
@[simp] theorem acK{E:List Nat}{d:Option Nat}{v:AV}{K:Fr->dd->Prop}{fr:Fr}{H:dd}:Nb E d v K fr H=if d.any E.contains then(match v with|.slice _ l=>K (fr.put d (.xx H.length 0 l.length l.length)) (H++[l.flatMap AV.cells])|_=>False)else K (fr.put d v) H:=rfl
@[simp] theorem Zr{x y:Operand}{t d:Nat}:jH P T E ops ({dst:=some d,op:=.call {callee:=.builtin .append,args:=#[x,y],argTypes:=#[t,t]},type:=ty,pos:=pos,after:=after,guard:=none}::rest) K fr H=w_ P t (ev T fr x) (ev T fr y) d (jH P T E ops rest K) fr H:=by
 simp only[jH,Ib,uZ];unfold w_;rw[<-G6 (T:=T),<-T_ (T:=T),<-GY (T:=T),PO,YG]
@[simp] theorem acg{f:Operand}{as:Array Operand}{ts:Array TypeId}:jH P T E ops ({dst:=d,op:=.call {callee:=.value f,args:=as,argTypes:=ts},type:=ty,pos:=pos,after:=after,guard:=none}::rest) K fr H=nM P T E ops (ev T fr f) (as.toList.map λx=>(ev T fr x).norm) d rest K fr H:=rfl
@[simp] theorem aeQ{as:Array Operand}{ts:Array TypeId}:jH P T E ops ({dst:=d,op:=.call {callee:=.builtin .len,args:=as,argTypes:=ts},type:=ty,pos:=pos,after:=after,guard:=none}::rest) K fr H=match xa P T fr {callee:=.builtin .len,args:=as,argTypes:=ts}with|some v=>jH P T E ops rest K (fr.put d v) H|none=>False:=rfl
@[simp] theorem adu{as:Array Operand}{ts:Array TypeId}:jH P T E ops ({dst:=d,op:=.call {callee:=.builtin .max,args:=as,argTypes:=ts},type:=ty,pos:=pos,after:=after,guard:=none}::rest) K fr H=match xa P T fr {callee:=.builtin .max,args:=as,argTypes:=ts}with|some v=>jH P T E ops rest K (fr.put d v) H|none=>False:=rfl
@[simp] theorem aeS{as:Array Operand}{ts:Array TypeId}:jH P T E ops ({dst:=d,op:=.call {callee:=.builtin .min,args:=as,argTypes:=ts},type:=ty,pos:=pos,after:=after,guard:=none}::rest) K fr H=match xa P T fr {callee:=.builtin .min,args:=as,argTypes:=ts}with|some v=>jH P T E ops rest K (fr.put d v) H|none=>False:=rfl
@[simp] theorem ac6{c a b:Operand}:jH P T E ops ({dst:=d,op:=.pick c a b,type:=ty,pos:=pos,after:=after,guard:=none}::rest) K fr H=match zs P T fr {dst:=d,op:=.pick c a b,type:=ty,pos:=pos,after:=after,guard:=none}with|some v=>jH P T E ops rest K (fr.put d v) H|none=>False:=rfl
@[simp] theorem aay{t:TypeId}{ps:Array (Nat×Operand)}:jH P T E ops ({dst:=d,op:=.build t ps,type:=ty,pos:=pos,after:=after,guard:=none}::rest) K fr H=match GU P t (ps.toList.map λp=>(p.1,ev T fr p.2))with|some v=>jH P T E ops rest K (fr.put d v) H|none=>False:=rfl
@[simp] theorem aa1{o:BinOp}{t u:TypeId}{x y:Operand}:jH P T E ops ({dst:=d,op:=.binOp o t x y u,type:=ty,pos:=pos,after:=after,guard:=none}::rest) K fr H=match Km P o t y (ev T fr x) (ev T fr y)with|some v=>jH P T E ops rest K (fr.put d v) H|none=>False:=rfl
@[simp] theorem acQ{o:UnOp}{t:TypeId}{x:Operand}:jH P T E ops ({dst:=d,op:=.unOp o t x,type:=ty,pos:=pos,after:=after,guard:=none}::rest) K fr H=match unA o (ev T fr x)with|some v=>jH P T E ops rest K (fr.put d v) H|none=>False:=rfl
@[simp] theorem Y0{s t:TypeId}{x:Operand}:jH P T E ops ({dst:=d,op:=.convert s t x,type:=ty,pos:=pos,after:=after,guard:=none}::rest) K fr H=Ri P d s t (ev T fr x) (jH P T E ops rest K) fr H:=rfl
@[simp] theorem aeT{s t:TypeId}{d:Option Nat}{x:AV}{K:Fr->dd->Prop}{fr:Fr}{H:dd}:Ri P d s t x K fr H=match ON P s t x with
 |some v=>K (fr.put d v) H|none=>match P.underlying s,P.underlying t,x with
  |some .string,some (.slice e),.sc (.string y)=>P.underlying e=some (.int .u8)/\y.size<=mw/\∀cap k,y.size<=cap->K (fr.put d (.xx H.length 0 y.size cap)) (H++[s7 y++BZ k])|_,_,_=>False:=rfl
@[simp] theorem XH{fn:Fn}{f c:Array Operand}:jH P T E ops ({dst:=d,op:=.makeFunc fn f c,type:=ty,pos:=pos,after:=after,guard:=none}::rest) K fr H=jH P T E ops rest K (fr.put d (.func fn (f.toList.map λx=>(ev T fr x).norm) (c.toList.map λx=>(ev T fr x).norm))) H:=rfl
@[simp] theorem V_{t i:Nat}{x:Operand}:jH P T E ops ({dst:=d,op:=.fieldAddr t x i,type:=ty,pos:=pos,after:=after,guard:=none}::rest) K fr H=match vw P t (ev T fr x) i with|some v=>jH P T E ops rest K (fr.put d v) H|none=>False:=rfl
@[simp] theorem aaF{t i:Nat}{x:Operand}:jH P T E ops ({dst:=d,op:=.field t x i,type:=ty,pos:=pos,after:=after,guard:=none}::rest) K fr H=match DM P t (ev T fr x) i with|some v=>jH P T E ops rest K (fr.put d v) H|none=>False:=rfl
@[simp] theorem Xu{t:TypeId}{x i:Operand}:jH P T E ops ({dst:=d,op:=.indexAddr t x i,type:=ty,pos:=pos,after:=after,guard:=none}::rest) K fr H=match gO P t (ev T fr x) (ev T fr i)with|some v=>jH P T E ops rest K (fr.put d v) H|none=>False:=rfl
@[simp] theorem ab4{t:TypeId}{x i:Operand}:jH P T E ops ({dst:=d,op:=.index t x i,type:=ty,pos:=pos,after:=after,guard:=none}::rest) K fr H=match JE P t (ev T fr x) (ev T fr i)with|some v=>jH P T E ops rest K (fr.put d v) H|none=>False:=rfl
@[simp] theorem aaR{t:TypeId}{x:Operand}{lo hi a:Option Operand}:jH P T E ops ({dst:=d,op:=.slice t x lo hi a,type:=ty,pos:=pos,after:=after,guard:=none}::rest) K fr H=match sq P t (ev T fr x) (lo.map (ev T fr)) (hi.map (ev T fr)) (a.map (ev T fr))with|some v=>jH P T E ops rest K (fr.put d v) H|none=>False:=rfl
@[simp] theorem Y8{i:Nat}{x:Operand}:jH P T E ops ({dst:=d,op:=.extract x i,type:=ty,pos:=pos,after:=after,guard:=none}::rest) K fr H=match zs P T fr {dst:=d,op:=.extract x i,type:=ty,pos:=pos,after:=after,guard:=none}with|some v=>jH P T E ops rest K (fr.put d v) H|none=>False:=rfl
@[simp] theorem XI{x:Operand}:jH P T E ops ({dst:=d,op:=.nilCheck x,type:=ty,pos:=pos,after:=after,guard:=none}::rest) K fr H=match zs P T fr {dst:=d,op:=.nilCheck x,type:=ty,pos:=pos,after:=after,guard:=none}with|some v=>jH P T E ops rest K (fr.put d v) H|none=>False:=rfl
@[simp] theorem VF{t a:TypeId}{x:Operand}:jH P T E ops ({dst:=d,op:=.typeAssert x a t true,type:=ty,pos:=pos,after:=after,guard:=none}::rest) K fr H=match LH P t (ev T fr x)with|some v=>jH P T E ops rest K (fr.put d v) H|none=>False:=rfl
@[simp] theorem SW{t:TypeId}{x:Operand}:jH P T E ops ({dst:=d,op:=.makeInterface t x,type:=ty,pos:=pos,after:=after,guard:=none}::rest) K fr H=match zs P T fr {dst:=d,op:=.makeInterface t x,type:=ty,pos:=pos,after:=after,guard:=none}with|some v=>jH P T E ops rest K (fr.put d v) H|none=>False:=rfl
@[simp] theorem X8{t:TypeId}:jH P T E ops ({dst:=d,op:=.makeMap t none,type:=ty,pos:=pos,after:=after,guard:=none}::rest) K fr H=NM d (jH P T E ops rest K) fr H:=rfl
@[simp] theorem Xe{t:TypeId}{x i y:Operand}:jH P T E ops ({dst:=none,op:=.mapUpdate t x i y,type:=ty,pos:=pos,after:=after,guard:=none}::rest) K fr H=wE P t (ev T fr x) (ev T fr i) (ev T fr y) (jH P T E ops rest K) fr H:=by simp[jH,Ib,uZ]
@[simp] theorem ZB{t:TypeId}{x i y:Operand}:jH P T E ops ({dst:=none,op:=.insert t x i y,type:=ty,pos:=pos,after:=after,guard:=none}::rest) K fr H=wE P t (ev T fr x) (ev T fr i) (ev T fr y) (jH P T E ops rest K) fr H:=by simp[jH,Ib,uZ]
@[simp] theorem aan{t:TypeId}{x:Operand}:jH P T E ops ({dst:=d,op:=.range t x,type:=ty,pos:=pos,after:=after,guard:=none}::rest) K fr H=MI P t (ev T fr x) d (jH P T E ops rest K) fr H:=rfl
@[simp] theorem abz{x:Operand}:jH P T E ops ({dst:=d,op:=.entry x,type:=ty,pos:=pos,after:=after,guard:=none}::rest) K fr H=match JC (ev T fr x) H with|some v=>jH P T E ops rest K (fr.put d v) H|none=>False:=rfl
@[simp] theorem UF{x:Operand}:jH P T E ops ({dst:=d,op:=.next x false,type:=ty,pos:=pos,after:=after,guard:=none}::rest) K fr H=OR (ev T fr x) d (jH P T E ops rest K) fr H:=rfl
@[simp] theorem aas{op:Op}{j:Nat}{want:Bool}:jH P T E ops ({dst:=d,op:=op,type:=ty,pos:=pos,after:=after,guard:=some (j,want)}::rest) K fr H=match(ops[j]?).bind (·.dst)with
 |some g=>match fr.env g with
  |.sc (.bool b)=>if b=want then jH P T E ops ({dst:=d,op:=op,type:=ty,pos:=pos,after:=after,guard:=none}::rest) K fr H else jH P T E ops rest K (fr.put d (.tuple [])) H|.tuple _=>jH P T E ops rest K (fr.put d (.tuple [])) H|_=>False
 |none=>False:=rfl
@[simp] theorem aaU{x:Operand}:kA P T E ops q ({dst:=d,op:=.move x,type:=ty,pos:=pos,after:=after,guard:=none}::rest) K fr H=kA P T E ops q rest K (fr.put d (ev T fr x)) H:=rfl
@[simp] theorem Y_{x:Operand}:kA P T E ops q ({dst:=d,op:=.assign x,type:=ty,pos:=pos,after:=after,guard:=none}::rest) K fr H=kA P T E ops q rest K (fr.put d (ev T fr x)) H:=rfl
@[simp] theorem aam{t:TypeId}{x:Operand}:kA P T E ops q ({dst:=d,op:=.load t x,type:=ty,pos:=pos,after:=after,guard:=none}::rest) K fr H=if uB ops.toList x (ev T fr x)&&q.ok (ev T fr x)then(match yp P fr H t (ev T fr x)with|some v=>kA P T E ops q rest K (fr.put d v) H|none=>False)else False:=by
 simp only[kA,iX,iW,sK,lS,pM,yr,lU,jC,iB,oZ,X3,RY]
 split
 ·rename_i v a
  split at a
  ·rename_i b;rw[cK b,a]
  ·cases a
 ·rename_i a
  split at a
  ·rename_i b;rw[cK b,a]
  ·rename_i b;rw[cI b]
@[simp] theorem aar{f:Operand}{as:Array Operand}{ts:Array TypeId}:kA P T E ops q ({dst:=d,op:=.call {callee:=.value f,args:=as,argTypes:=ts},type:=ty,pos:=pos,after:=after,guard:=none}::rest) K fr H=zE P T E ops q (ev T fr f) (as.toList.map λx=>(ev T fr x).norm) d rest K fr H:=by
 simp only[kA,iX,iW,sK,lS,pM,yr,lU,jC,iB,YT,zE]
@[simp] theorem acb{as:Array Operand}{ts:Array TypeId}:kA P T E ops q ({dst:=d,op:=.call {callee:=.builtin .len,args:=as,argTypes:=ts},type:=ty,pos:=pos,after:=after,guard:=none}::rest) K fr H=match xa P T fr {callee:=.builtin .len,args:=as,argTypes:=ts}with|some v=>kA P T E ops q rest K (fr.put d v) H|none=>False:=rfl
@[simp] theorem acu{as:Array Operand}{ts:Array TypeId}:kA P T E ops q ({dst:=d,op:=.call {callee:=.builtin .max,args:=as,argTypes:=ts},type:=ty,pos:=pos,after:=after,guard:=none}::rest) K fr H=match xa P T fr {callee:=.builtin .max,args:=as,argTypes:=ts}with|some v=>kA P T E ops q rest K (fr.put d v) H|none=>False:=rfl
@[simp] theorem aca{as:Array Operand}{ts:Array TypeId}:kA P T E ops q ({dst:=d,op:=.call {callee:=.builtin .min,args:=as,argTypes:=ts},type:=ty,pos:=pos,after:=after,guard:=none}::rest) K fr H=match xa P T fr {callee:=.builtin .min,args:=as,argTypes:=ts}with|some v=>kA P T E ops q rest K (fr.put d v) H|none=>False:=rfl
@[simp] theorem aao{c a b:Operand}:kA P T E ops q ({dst:=d,op:=.pick c a b,type:=ty,pos:=pos,after:=after,guard:=none}::rest) K fr H=match zs P T fr {dst:=d,op:=.pick c a b,type:=ty,pos:=pos,after:=after,guard:=none}with|some v=>kA P T E ops q rest K (fr.put d v) H|none=>False:=rfl
@[simp] theorem Zm{t:TypeId}{ps:Array (Nat×Operand)}:kA P T E ops q ({dst:=d,op:=.build t ps,type:=ty,pos:=pos,after:=after,guard:=none}::rest) K fr H=match GU P t (ps.toList.map λp=>(p.1,ev T fr p.2))with|some v=>kA P T E ops q rest K (fr.put d v) H|none=>False:=rfl
@[simp] theorem Z2{o:BinOp}{t u:TypeId}{x y:Operand}:kA P T E ops q ({dst:=d,op:=.binOp o t x y u,type:=ty,pos:=pos,after:=after,guard:=none}::rest) K fr H=match Km P o t y (ev T fr x) (ev T fr y)with|some v=>kA P T E ops q rest K (fr.put d v) H|none=>False:=rfl
@[simp] theorem aba{o:UnOp}{t:TypeId}{x:Operand}:kA P T E ops q ({dst:=d,op:=.unOp o t x,type:=ty,pos:=pos,after:=after,guard:=none}::rest) K fr H=match unA o (ev T fr x)with|some v=>kA P T E ops q rest K (fr.put d v) H|none=>False:=rfl
@[simp] theorem XW{s t:TypeId}{x:Operand}:kA P T E ops q ({dst:=d,op:=.convert s t x,type:=ty,pos:=pos,after:=after,guard:=none}::rest) K fr H=match ON P s t (ev T fr x)with|some v=>kA P T E ops q rest K (fr.put d v) H|none=>False:=rfl
@[simp] theorem Xz{fn:Fn}{f c:Array Operand}:kA P T E ops q ({dst:=d,op:=.makeFunc fn f c,type:=ty,pos:=pos,after:=after,guard:=none}::rest) K fr H=kA P T E ops q rest K (fr.put d (.func fn (f.toList.map λx=>(ev T fr x).norm) (c.toList.map λx=>(ev T fr x).norm))) H:=rfl
@[simp] theorem VH{t i:Nat}{x:Operand}:kA P T E ops q ({dst:=d,op:=.fieldAddr t x i,type:=ty,pos:=pos,after:=after,guard:=none}::rest) K fr H=match vw P t (ev T fr x) i with|some v=>kA P T E ops q rest K (fr.put d v) H|none=>False:=rfl
@[simp] theorem ZP{t i:Nat}{x:Operand}:kA P T E ops q ({dst:=d,op:=.field t x i,type:=ty,pos:=pos,after:=after,guard:=none}::rest) K fr H=match DM P t (ev T fr x) i with|some v=>kA P T E ops q rest K (fr.put d v) H|none=>False:=rfl
@[simp] theorem VD{t:TypeId}{x i:Operand}:kA P T E ops q ({dst:=d,op:=.indexAddr t x i,type:=ty,pos:=pos,after:=after,guard:=none}::rest) K fr H=match gO P t (ev T fr x) (ev T fr i)with|some v=>kA P T E ops q rest K (fr.put d v) H|none=>False:=rfl
@[simp] theorem Zy{t:TypeId}{x i:Operand}:kA P T E ops q ({dst:=d,op:=.index t x i,type:=ty,pos:=pos,after:=after,guard:=none}::rest) K fr H=match JE P t (ev T fr x) (ev T fr i)with|some v=>kA P T E ops q rest K (fr.put d v) H|none=>False:=rfl
@[simp] theorem ZC{t:TypeId}{x:Operand}{lo hi a:Option Operand}:kA P T E ops q ({dst:=d,op:=.slice t x lo hi a,type:=ty,pos:=pos,after:=after,guard:=none}::rest) K fr H=match sq P t (ev T fr x) (lo.map (ev T fr)) (hi.map (ev T fr)) (a.map (ev T fr))with|some v=>kA P T E ops q rest K (fr.put d v) H|none=>False:=rfl
@[simp] theorem XM{i:Nat}{x:Operand}:kA P T E ops q ({dst:=d,op:=.extract x i,type:=ty,pos:=pos,after:=after,guard:=none}::rest) K fr H=match zs P T fr {dst:=d,op:=.extract x i,type:=ty,pos:=pos,after:=after,guard:=none}with|some v=>kA P T E ops q rest K (fr.put d v) H|none=>False:=rfl
@[simp] theorem Xk{x:Operand}:kA P T E ops q ({dst:=d,op:=.nilCheck x,type:=ty,pos:=pos,after:=after,guard:=none}::rest) K fr H=match zs P T fr {dst:=d,op:=.nilCheck x,type:=ty,pos:=pos,after:=after,guard:=none}with|some v=>kA P T E ops q rest K (fr.put d v) H|none=>False:=rfl
@[simp] theorem Si{t:TypeId}{x:Operand}:kA P T E ops q ({dst:=d,op:=.makeInterface t x,type:=ty,pos:=pos,after:=after,guard:=none}::rest) K fr H=match zs P T fr {dst:=d,op:=.makeInterface t x,type:=ty,pos:=pos,after:=after,guard:=none}with|some v=>kA P T E ops q rest K (fr.put d v) H|none=>False:=rfl
end
@[simp] theorem Fr.aej(fr:Fr)(d:Nat)(x:AV):fr.put (some d) x={fr with env:=ia fr.env d x}:=rfl
@[simp] theorem Fr.adX(fr:Fr)(x:AV):fr.put none x=fr:=rfl
@[simp] theorem afi{α:Type}(f:Nat->α)(i:Nat)(x:α)(j:Nat):ia f i x j=if j=i then x else f j:=rfl
@[simp] theorem ZA:AV.cells (.undef:AV)=[(.undef:AV)]:=rfl
@[simp] theorem Xf:e9 (.undef:AV)=true:=rfl
@[simp] theorem Zu:AV.kM (.undef:AV)=(.undef:AV):=rfl
@[simp] theorem abj:AV.norm (.undef:AV)=(.undef:AV):=rfl
@[simp] theorem aer(v:Value):AV.cells (.sc v:AV)=[(.sc v:AV)]:=rfl
@[simp] theorem Zj(v:Value):e9 (.sc v:AV)=true:=rfl
@[simp] theorem aeD(v:Value):AV.kM (.sc v:AV)=(.sc v:AV):=rfl
@[simp] theorem afl(v:Value):AV.norm (.sc v:AV)=(.sc v:AV):=rfl
@[simp] theorem Zd(P:Program)(ty:TypeId)(v:Value):vX P ty (.sc v:AV)=match fw P ty with|some (false,_)=>true|_=>false:=by
 unfold vX;cases fw P ty with
 |none=>rfl|some p=>obtain⟨b,k⟩:=p;cases b<;>rfl
@[simp] theorem abI(x:AV):AV.cells (.nt x:AV)=[(.nt x:AV)]:=rfl
@[simp] theorem XP(x:AV):e9 (.nt x:AV)=true:=rfl
@[simp] theorem abM(x:AV):AV.kM (.nt x:AV)=(.nt x:AV):=rfl
@[simp] theorem acr(x:AV):AV.norm (.nt x:AV)=(.nt x:AV):=rfl
@[simp] theorem abD(b g o:Nat):AV.cells (.jo b g o:AV)=[(.jo b g o:AV)]:=rfl
@[simp] theorem XR(b g o:Nat):e9 (.jo b g o:AV)=true:=rfl
@[simp] theorem aax(b g o:Nat):AV.kM (.jo b g o:AV)=.undef:=rfl
@[simp] theorem acR(b g o:Nat):AV.norm (.jo b g o:AV)=.undef:=rfl
@[simp] theorem acW(b g o c:Nat):AV.cells (.A3 b g o c:AV)=[(.A3 b g o c:AV)]:=rfl
@[simp] theorem X5(b g o c:Nat):e9 (.A3 b g o c:AV)=true:=rfl
@[simp] theorem acq(b g o c:Nat):AV.kM (.A3 b g o c:AV)=.undef:=rfl
@[simp] theorem ael(b g o c:Nat):AV.norm (.A3 b g o c:AV)=.undef:=rfl
@[simp] theorem aaz(o f:Nat):AV.cells (.eS o f:AV)=[(.eS o f:AV)]:=rfl
@[simp] theorem XK(o f:Nat):e9 (.eS o f:AV)=true:=rfl
@[simp] theorem abk(o f:Nat):AV.kM (.eS o f:AV)=(.eS o f:AV):=rfl
@[simp] theorem acp(o f:Nat):AV.norm (.eS o f:AV)=(.eS o f:AV):=rfl
@[simp] theorem Vv(P:Program)(ty:TypeId)(o f:Nat):vX P ty (.eS o f:AV)=match fw P ty with|some (false,_)=>true|_=>false:=by
 unfold vX;cases fw P ty with
 |none=>rfl|some p=>obtain⟨b,k⟩:=p;cases b<;>rfl
@[simp] theorem aa9(o:Nat):AV.cells (.qZ o:AV)=[(.qZ o:AV)]:=rfl
@[simp] theorem XS(o:Nat):e9 (.qZ o:AV)=true:=rfl
@[simp] theorem abq(o:Nat):AV.kM (.qZ o:AV)=(.qZ o:AV):=rfl
@[simp] theorem ac4(o:Nat):AV.norm (.qZ o:AV)=(.qZ o:AV):=rfl
@[simp] theorem acs(o s l c:Nat):AV.cells (.xx o s l c:AV)=[(.xx o s l c:AV)]:=rfl
@[simp] theorem YJ(o s l c:Nat):e9 (.xx o s l c:AV)=true:=rfl
@[simp] theorem acJ(o s l c:Nat):AV.kM (.xx o s l c:AV)=(.xx o s l c:AV):=rfl
@[simp] theorem adp(o s l c:Nat):AV.norm (.xx o s l c:AV)=(.xx o s l c:AV):=rfl
@[simp] theorem acV(o s l c:Nat):AV.gw (.xx o s l c)=true:=rfl
@[simp] theorem VV{P:Program}{t:TypeId}{k:IntKind}{a:Int}{b s n c:Nat}:gO P t (.xx b s n c) (.sc (.int k a))=match P.underlying t with
  |some (.slice e)=>match fw P e with
   |some (_,sz)=>if 0<=a/\a<(n:Int)then some (.eS b (s+a.toNat*sz))else none|none=>none
  |_=>none:=by
 unfold gO;cases P.underlying t with
 |none=>rfl|some y=>cases y<;>rfl
@[simp] theorem acC:w6 []=false:=rfl
@[simp] theorem ab3(c:AV)(cs:List AV):w6 (c::cs)=c.gw:=rfl
@[simp] theorem adC(v:Value):AV.gw (.sc v)=true:=rfl
@[simp] theorem aaH(x:AV):AV.gw (.nt x)=true:=rfl
@[simp] theorem aai(b g o:Nat):AV.gw (.jo b g o)=true:=rfl
@[simp] theorem ab5(o f:Nat):AV.gw (.eS o f)=true:=rfl
@[simp] theorem aa'(o:Nat):AV.gw (.qZ o)=true:=rfl
@[simp] theorem ZZ(t:Tag)(l:List AV):AV.gw (.slice t l)=true:=rfl
@[simp] theorem aak(f:Fn)(a c:List AV):AV.gw (.func f a c)=true:=rfl
@[simp] theorem Zi:AV.gw .undef=true:=rfl
@[simp] theorem acm(b g l c:Nat):AV.gw (.A3 b g l c)=true:=rfl
@[simp] theorem Zt(t:TypeId)(x:AV):AV.gw (.iface t x)=true:=rfl
@[simp] theorem Z5(t:Tag)(l:List AV):AV.cells (.slice t l:AV)=[(.slice t l:AV)]:=rfl
@[simp] theorem Wa(t:Tag)(l:List AV):e9 (.slice t l:AV)=true:=rfl
@[simp] theorem Zq(t:Tag)(l:List AV):AV.kM (.slice t l:AV)=.slice .jU l:=rfl
@[simp] theorem aaL(t:Tag)(l:List AV):AV.norm (.slice t l:AV)=.slice .jU l:=rfl
@[simp] theorem aaC(P:Program)(ty:TypeId)(t:Tag)(l:List AV):vX P ty (.slice t l:AV)=match fw P ty with|some (false,_)=>true|_=>false:=by
 unfold vX;cases fw P ty with
 |none=>rfl|some p=>obtain⟨b,k⟩:=p;cases b<;>rfl
@[simp] theorem acn(cs:List AV):AV.cells (.agg cs:AV)=cs:=rfl
@[simp] theorem XZ(cs:List AV):e9 (.agg cs:AV)=true:=rfl
@[simp] theorem acx(cs:List AV):AV.kM (.agg cs:AV)=(.agg cs:AV):=rfl
@[simp] theorem aeG(cs:List AV):AV.norm (.agg cs:AV)=.agg (cs.map AV.kM):=rfl
@[simp] theorem yI(P:Program)(ty:TypeId)(cs:List AV):vX P ty (.agg cs)=match fw P ty with|some (true,n)=>cs.length==n|_=>false:=by
 unfold vX;cases fw P ty with
 |none=>rfl|some p=>obtain⟨b,k⟩:=p;cases b<;>rfl
@[simp] theorem ZM(cs:List AV):AV.cells (.tuple cs:AV)=[(.tuple cs:AV)]:=rfl
@[simp] theorem Xl(cs:List AV):e9 (.tuple cs:AV)=false:=rfl
@[simp] theorem Zl(cs:List AV):AV.kM (.tuple cs:AV)=(.tuple cs:AV):=rfl
@[simp] theorem abe(cs:List AV):AV.norm (.tuple cs:AV)=(.tuple cs:AV):=rfl
@[simp] theorem aa4(f:Fn)(a c:List AV):AV.cells (.func f a c:AV)=[(.func f a c:AV)]:=rfl
@[simp] theorem XV(f:Fn)(a c:List AV):e9 (.func f a c:AV)=true:=rfl
@[simp] theorem aaf(f:Fn)(a c:List AV):AV.kM (.func f a c:AV)=(.func f a c:AV):=rfl
@[simp] theorem acw(f:Fn)(a c:List AV):AV.norm (.func f a c:AV)=(.func f a c:AV):=rfl
@[simp] theorem Z7(t:TypeId)(x:AV):AV.cells (.iface t x:AV)=[(.iface t x:AV)]:=rfl
@[simp] theorem WC(t:TypeId)(x:AV):e9 (.iface t x:AV)=true:=rfl
@[simp] theorem ZN(t:TypeId)(x:AV):AV.kM (.iface t x:AV)=(.iface t x:AV):=rfl
@[simp] theorem aaS(t:TypeId)(x:AV):AV.norm (.iface t x:AV)=(.iface t x:AV):=rfl
@[simp] theorem abr(sz:Nat):mN sz []=true:=rfl
@[simp] theorem Zw(sz:Nat)(x:AV)(l:List AV):mN sz (x::l)=(x.cells.length==sz):=rfl
def fH(H:dd)(o:Nat)(c:List AV):dd:=H.set o c
@[simp] theorem ac2{H:dd}{o:Nat}{x y:List AV}:fH (fH H o x) o y=fH H o y:=by simp[fH]
@[simp] theorem ZQ{H:dd}{o:Nat}{x:List AV}:(fH H o x).length=H.length:=by simp[fH]
section
variable{P:Program} {t:TypeId} {k k':IntKind} {a b:Int} {u v:ByteArray} {p q:Bool}
@[simp] theorem adU{i:Nat}{u v:AV}{op:BinOp}:Km P op t (.tmp i) u v=p9 P op t u v:=rfl
@[simp] theorem adm{i:Int}{u v:AV}{op:BinOp}:Km P op t (.const (.int k i)) u v=p9 P op t u v:=rfl
@[simp] theorem ack{i:Bool}{u v:AV}{op:BinOp}:Km P op t (.const (.bool i)) u v=p9 P op t u v:=rfl
@[simp] theorem aeF{i:ByteArray}{u v:AV}{op:BinOp}:Km P op t (.const (.string i)) u v=p9 P op t u v:=rfl
@[simp] theorem adN{i:Option Addr}{u v:AV}{op:BinOp}:Km P op t (.const (.pointer i)) u v=p9 P op t u v:=rfl
@[simp] theorem afh{u v:AV}{op:BinOp}:Km P op t (.const .nilFunc) u v=p9 P op t u v:=rfl
@[simp] theorem adT{i:Option Nat}{u v:AV}{op:BinOp}:Km P op t (.const (.map i)) u v=p9 P op t u v:=rfl
@[simp] theorem aeX:p9 P .add t (.sc (.int k a)) (.sc (.int k b))=some (.sc (.int k (dR k a b))):=by simp[p9,vO,uJ,dR]
@[simp] theorem aeV:p9 P .sub t (.sc (.int k a)) (.sc (.int k b))=some (.sc (.int k (ea k a b))):=by simp[p9,vO,uJ,ea]
@[simp] theorem ada:p9 P .mul t (.sc (.int k a)) (.sc (.int k b))=some (.sc (.int k (Oh k a b))):=by simp[p9,vO,uJ,Oh]
@[simp] theorem aec:p9 P .rem t (.sc (.int k a)) (.sc (.int k b))=if K0 b then some (.sc (.int k (Vb k a b)))else none:=by
 by_cases h:b=0<;>simp[p9,vO,uJ,Vb,K0,h]
@[simp] theorem adI:p9 P .and t (.sc (.int k a)) (.sc (.int k b))=some (.sc (.int k (pS k a b))):=by simp[p9,vO,uJ,pS]
@[simp] theorem ae7:p9 P .or t (.sc (.int k a)) (.sc (.int k b))=some (.sc (.int k (vT k a b))):=by simp[p9,vO,uJ,vT]
@[simp] theorem aeI:p9 P .shl t (.sc (.int k a)) (.sc (.int k' b))=if HN b then some (.sc (.int k (TP k a b)))else none:=by
 by_cases h:b<0<;>simp[p9,vO,TP,HN,h]
@[simp] theorem adE:p9 P .shr t (.sc (.int k a)) (.sc (.int k' b))=if HN b then some (.sc (.int k (T' k a b)))else none:=by
 by_cases h:b<0<;>simp[p9,vO,T',HN,h]
@[simp] theorem ad_:p9 P .eql t (.sc (.int k a)) (.sc (.int k b))=some (.sc (.bool (dm a b))):=by simp[p9,vO,uJ,dm]
@[simp] theorem ad9:p9 P .neq t (.sc (.int k a)) (.sc (.int k b))=some (.sc (.bool (dw a b))):=by simp[p9,vO,uJ,dw]
@[simp] theorem aew:p9 P .lss t (.sc (.int k a)) (.sc (.int k b))=some (.sc (.bool (pP a b))):=by simp[p9,vO,uJ,pP]
@[simp] theorem aeE:p9 P .leq t (.sc (.int k a)) (.sc (.int k b))=some (.sc (.bool (A8 a b))):=by simp[p9,vO,uJ,A8]
@[simp] theorem aeR:p9 P .gtr t (.sc (.int k a)) (.sc (.int k b))=some (.sc (.bool (nW a b))):=by simp[p9,vO,uJ,nW]
@[simp] theorem ad3:p9 P .geq t (.sc (.int k a)) (.sc (.int k b))=some (.sc (.bool (rZ a b))):=by simp[p9,vO,uJ,rZ]
@[simp] theorem ad6:p9 P .neq t (.sc (.bool p)) (.sc (.bool q))=match P.underlying t with|some .bool=>some (.sc (.bool (We p q)))|_=>none:=by
 unfold p9 vO We;cases P.underlying t with
 |none=>rfl|some y=>cases y<;>rfl
@[simp] theorem ae0:unA .not (.sc (.bool p))=some (.sc (.bool (m9 p))):=by simp[unA,m9]
@[simp] theorem acY:Uy (.sc (.int k a)) (.sc (.int k' b))=some (.sc (.int k (imax a b))):=rfl
@[simp] theorem adW{α:Type}{f:α->AV}{tag:Tag}{l:List α}:Lm P t (.slice tag (l.map f))=match P.underlying t with|some (.slice _)=>some (.sc (.int .i64 (dn l)))|some (.array n _)=>some (.sc (.int .i64 n))|_=>none:=by
 unfold Lm dn;cases P.underlying t with
 |none=>rfl|some y=>cases y<;>simp
@[simp] theorem ac_{tag:Tag}:Lm P t (.slice tag [])=match P.underlying t with|some (.slice _)=>some (.sc (.int .i64 0))|some (.array n _)=>some (.sc (.int .i64 n))|_=>none:=by
 unfold Lm;cases P.underlying t with
 |none=>rfl|some y=>cases y<;>rfl
@[simp] theorem acZ{tag:Tag}{x:AV}{l:List AV}:Lm P t (.slice tag (x::l))=match P.underlying t with|some (.slice _)=>some (.sc (.int .i64 ((l.length+1:Nat):Int)))|some (.array n _)=>some (.sc (.int .i64 n))|_=>none:=by
 unfold Lm;cases P.underlying t with
 |none=>rfl|some y=>cases y<;>rfl
@[simp] theorem Wx{α:Type}{f:α->AV}{tag:Tag}{l:List α}:gO P t (.slice tag (l.map f)) (.sc (.int k a))=match P.underlying t with
  |some (.slice e)=>match df l a,fw P e with
   |some x,some (_,sz)=>if(f x).cells.length=sz then some (.nt (f x))else none|_,_=>none
  |_=>none:=by
 unfold gO df;cases P.underlying t with
 |none=>rfl|some y=>
  cases y<;>try rfl
  rename_i e;simp only[xr]
  by_cases h:0<=a
  ·rw[cK h,cK h];cases l[a.toNat]?with
   |none=>rfl|some x=>cases fw P e<;>rfl
  ·rw[cI h,cI h]
def LU{α:Type}{f:α->AV}{L:List α}{n e:Nat}(hu:P.underlying t=some (.array n e))(c:fw P e=some (false,1))(hn:L.length=n):gO P t (.nt (.agg (L.map f))) (.sc (.int k a))=(df L a).map λx=>.nt (f x):=by
 unfold gO df;simp only[hu,c,X4];unfold p0;simp only[c,AV.cells]
 by_cases h:0<=a
 ·rw[cK h]
  by_cases d:a<n
  ·rw[cK ⟨h,d⟩];simp only[xr];cases L[a.toNat]?<;>rfl
  ·rw[cI (λb=>d b.2),UL VW];rfl
 ·rw[cI h,cI (λb=>h b.1)];rfl
end
attribute [simp] ev ofValue uO BD nq NM yp p0 vw DM GU KN qx setCells I' O9 xa zs
 uB Kr rootOf isG isL Sj OA zW H7
@[simp] theorem ZE{P:Program}{t:TypeId}{b g off:Nat}{v:AV}{K:Fr->dd->Prop}{fr:Fr}{H:dd}:o6 P t (.jo b g off) v K fr H=match fw P t with
  |none=>False|some (_,n)=>match fr.box b with
   |some cs=>g=fr.gen b/\v.cells.length=n/\off+n<=cs.length/\e9 v=true/\K {fr with box:=ia fr.box b (some (setCells cs off v.cells))} H|none=>False:=by
 unfold o6;cases fw P t with
 |none=>rfl|some p=>rfl
@[simp] theorem ZR{P:Program}{t:TypeId}{o off:Nat}{v:AV}{K:Fr->dd->Prop}{fr:Fr}{H:dd}:o6 P t (.eS o off) v K fr H=match fw P t with
  |none=>False|some (_,n)=>match H[o]?with
   |some cs=>w6 cs=true/\v.cells.length=n/\off+n<=cs.length/\e9 v=true/\K fr (H.set o (setCells cs off v.norm.cells))|none=>False:=by
 unfold o6;cases fw P t with
 |none=>rfl|some p=>rfl
def gM.RB{P:Program}{T:ec}{n:Nat}{Q:Exit->Fr->dd->Prop}{fr:Fr}{H:dd}{c:Code}(I:Nat->Fr->dd->Prop)(m:Nat)(g:I m fr H)
  (h:∀m fr H,I m fr H->∀K:Fr->dd->Prop,(∀fr' H' a,a<m->I a fr' H'->K fr' H')->gM P T n c (H7 K Q) fr H):gM P T n (.loop c) Q fr H:=by
 refine gM.loop ?_
 have key:∀k fr H,I k fr H->ALp P T n c Q fr H:=by
  intro k
  induction k using Nat.strongRecOn with
  |_ k i=>
   intro fr H j;refine ALp.round (gM.mono (h k fr H j (λfr' H'=>∃a,a<k/\I a fr' H') λfr' H' a b d=>⟨a,b,d⟩) ?_);intro e fr' H' f;cases e with
   |normal=>obtain⟨a,b,d⟩:=f;exact i a b fr' H' d
   |_=>exact f
 exact key m fr H g
def P0(v:AV)(A B:Prop):Prop:=match v with|.sc (.bool t)=>if t then A else B|_=>False
@[simp] theorem ZV(t:Bool)(A B:Prop):P0 (.sc (.bool t)) A B=if t then A else B:=rfl
section
variable{P:Program} {T:ec} {n:Nat} {Q:Exit->Fr->dd->Prop} {fr:Fr} {H:dd}
def gM.yE{c:Operand}{x y:Code}
  (h:∀A B:Fr->dd->Prop,(∀fr H,gM P T n x Q fr H->A fr H)->(∀fr H,gM P T n y Q fr H->B fr H)->P0 (ev T fr c) (A fr H) (B fr H)) (d:lG c=true:=by rfl):gM P T n (.cond c x y) Q fr H:=by
 have a:=h (gM P T n x Q) (gM P T n y Q) (λ_ _ h=>h) (λ_ _ h=>h);generalize e:ev T fr c=v at a;cases v with
 |sc w=>
  cases w with
  |bool t=>
   refine gM.cond e d (λb=>?_) (λb=>?_)
   ·subst b;simpa using a
   ·subst b;simpa using a
  |_=>exact a.elim
 |_=>exact a.elim
def gM.sr{id:Nat}{ops:Array Oper}{y:Code}(E:List Nat)(h:∀K:Fr->dd->Prop,(∀fr H,gM P T n y Q fr H->K fr H)->jH P T E ops ops.toList K fr H)(a:DI n ops=true:=by decide+kernel):gM P T n (.seq (.region id ops false) y) Q fr H:=
 gM.yV λK b=>gM.region E a (h K b)
def gM.aex{x y:Code}(R:Fr->dd->Prop)(b:∀K:Fr->dd->Prop,(∀fr H,R fr H->K fr H)->gM P T n x (H7 K Q) fr H)(c:∀fr H,R fr H->gM P T n y Q fr H):gM P T n (.seq x y) Q fr H:=
 gM.seq ((b R λ_ _ h=>h).mono λe fr' H' a=>by cases e<;>first|exact c _ _ a|exact a)
end
@[simp] theorem range_one:List.range 1=[0]:=rfl
@[simp] theorem adf:List.range 2=[0,1]:=rfl
@[simp] theorem ad7:List.range 3=[0,1,2]:=rfl
@[simp] theorem adk:List.range 4=[0,1,2,3]:=rfl
@[simp] theorem aep:List.range 5=[0,1,2,3,4]:=rfl
@[simp] theorem adM:List.range 6=[0,1,2,3,4,5]:=rfl
@[simp] theorem ads:List.range 7=[0,1,2,3,4,5,6]:=rfl
@[simp] theorem ady:List.range 8=[0,1,2,3,4,5,6,7]:=rfl
@[simp] theorem adt:List.range 9=[0,1,2,3,4,5,6,7,8]:=rfl
@[simp] theorem acA:List.range 10=[0,1,2,3,4,5,6,7,8,9]:=rfl
@[simp] theorem acB:List.range 11=[0,1,2,3,4,5,6,7,8,9,10]:=rfl
@[simp] theorem acz:List.range 12=[0,1,2,3,4,5,6,7,8,9,10,11]:=rfl
@[simp] theorem aco:List.range 13=[0,1,2,3,4,5,6,7,8,9,10,11,12]:=rfl
section
variable{P:Program} {t e sz:Nat} {bl:Bool} {tag:Tag} {α:Type} {k k' k2:IntKind} {a b:Int} {u:ByteArray}
def YP(h:0<=a):Om (some (.sc (.int k a)))=some (some a.toNat):=by simp[Om,h]
def YS(h:¬0<=a):Om (some (.sc (.int k a)))=none:=by simp[Om,h]
def QH{x:AV}{lo hi:Option AV}(h:Om lo=none):sq P t x lo hi none=none:=by unfold sq;rw[h]
def R0{lo hi:Option AV}{a hi':Option Nat}(b:Om lo=some a)(c:Om hi=some hi')(f:α->AV)(l:List α)(hu:P.underlying t=some (.slice e))(d:fw P e=some (bl,sz))(g:∀x,(f x).cells.length=sz):sq P t (.slice tag (l.map f)) lo hi none=if hi'.getD l.length<=l.length/\a.getD 0<=hi'.getD l.length then some (.slice .jU (((l.take (hi'.getD l.length)).drop (a.getD 0)).map f))else none:=by
 have h:mN sz (l.map f)=true:=by
  cases l with
  |nil=>rfl|cons x l=>simp[mN,g x]
 unfold sq;rw[b,c];simp only[Om,hu,d,h,TC,Eb];simp
def KW(f:α->AV)(l:List α)(hu:P.underlying t=some (.slice e))(d:fw P e=some (bl,sz))(g:∀x,(f x).cells.length=sz):sq P t (.slice tag (l.map f)) (some (.sc (.int k a))) none none=(tu l a (dn l)).map λr=>.slice .jU (r.map f):=by
 unfold tu dn
 by_cases b:0<=a
 ·rw[R0 (YP b) (hi:=none) (hi':=none) rfl f l hu d g];simp only[b,Hc,Option.getD_some,Option.getD_none,yz,W2]
  by_cases c:l.length<=l.length/\a.toNat<=l.length
  ·rw[cK c,cK c];rfl
  ·rw[cI c,cI c];rfl
 ·rw[QH (YS b),cI (λh=>b h.1)];rfl
end
def CX{P:Program}{t e sz:Nat}{b:Bool}{tag:Tag}{α:Type}(f:α->AV)(l:List α)(hu:P.underlying t=some (.slice e))(a:fw P e=some (b,sz))(c:∀x,(f x).cells.length=sz):sq P t (.slice tag (l.map f)) none (some (.sc (.int .i64 (Go.ek.dn l)))) (some (.sc (.int .i64 (Go.ek.dn l))))=some (.slice .full (l.map f)):=by
 have h:mN sz (l.map f)=true:=by
  cases l with
  |nil=>rfl|cons x l=>simp[mN,c x]
 simp[sq,Om,hu,a,h,Go.ek.dn,<-List.map_take]
def xu{α:Type}(f:α->AV)(l:List (Int×α)):AV:=.yM (l.map λp=>Value.int .i64 p.1) (l.map λp=>f p.2)
@[simp] theorem adj{α:Type}(f:α->AV):xu f []=.yM [] []:=rfl
def VO{α:Type}(l:List (Int×α))(k:Int):mapIdx (l.map λp=>Value.int .i64 p.1) (.int .i64 k)=l.findIdx? (λp=>p.1==k):=by
 unfold mapIdx;rw[List.findIdx?_map];rfl
def UP{α:Type}(l:List (Int×α)):(l.map λp=>Value.int .i64 p.1).all (Ms (.int .i64))=true:=by
 rw[iC];intro x a;obtain⟨p,_,rfl⟩:=nU.1 a;rfl
def RQ{α:Type}(f:α->AV):∀(l:List (Int×α)) (k:Int) (y:α),Jy (l.map λp=>Value.int .i64 p.1) (l.map λp=>f p.2) (.int .i64 k) (f y)=xu f (sm l k y)
 |[],k,y=>rfl|p::l,k,y=>by
  have a:=RQ f l k y;unfold Jy at a|-;rw[VO] at a|-;rw[aal];unfold sm
  by_cases h:p.1=k
  ·subst h;simp[xu]
  ·rw[cI (by simpa using h),cI h];cases hi:l.findIdx? (λp=>p.1==k)with
   |none=>
    rw[hi] at a;simp only[xu,AV.yM.injEq] at a;simp[xu,<-a.1,<-a.2]
   |some j=>
    rw[hi] at a;simp only[xu,AV.yM.injEq] at a;simp[xu,<-a.1,<-a.2]
section
variable{P:Program} {t kt e:TypeId} {o:Nat} {k:Int} {α:Type} {f:α->AV} {d:Option Nat} {K:Fr->dd->Prop} {fr:Fr} {H:dd}
def yo.i64(l:List (Int×α))(y:α){v:AV}(hu:P.underlying t=some (.map kt e))(a:P.underlying kt=some (.int .i64))(b:H[o]?=some [xu f l])(c:v.norm=f y)(d:K fr (fH H o [xu f (sm l k y)])):wE P t (.qZ o) (.sc (.int .i64 k)) v K fr H:=by
 unfold wE;simp only[hu,a,b];refine⟨rfl,UP l,?_⟩;rw[c,RQ];exact d
end
end Go.ns
