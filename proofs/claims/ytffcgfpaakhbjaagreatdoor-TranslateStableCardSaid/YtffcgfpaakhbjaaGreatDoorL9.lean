/- Part of the proof of TranslateStable: layer. -/
import Derived.Test.YtffcgfpaakhbjaaGreatDoorL8
set_option linter.all false
namespace Go.jN
open Go Go.dG
def z8(P:Program)(t:TypeId)(s x:AV)(d:Nat)(K:Fr->cc->Prop)(fr:Fr)(H:cc):Prop:=
 match nS P t,s,x with
 |some (_,sz),.slice tag l,.slice _ m=>
  jm sz l=true/\jm sz m=true/\l.length+m.length<=hS/\(if nO fr tag l then K (grown fr d tag l m) H else m=[]/\K (fr.put (some d) (.slice .gY l)) H)
 |_,_,_=>False
def Am{P:Program}{T:cV}{x y:Operand}{t d:Nat}{K:Fr->cc->Prop}{fr:Fr}{H:cc}:lD P T {callee:=.builtin .append,args:=#[x,y],argTypes:=#[t,t]} (some d) K fr H=z8 P t (ev T fr x) (ev T fr y) d K fr H:=by
 unfold lD z8;simp only;cases nS P t with
 |none=>rfl|some p=>
  obtain⟨e,sz⟩:=p;cases ev T fr x<;>cases ev T fr y<;>simp only[BR]
def Rr(P:Program)(t:TypeId)(s x:AV)(d:Nat)(K:Fr->cc->Prop)(fr:Fr)(H:cc):Prop:=
 match nS P t,x with
 |some (e,sz),.slice _ m=>
  jm sz m=true/\(fY P e).isSome=true/\0<m.length/\match s with
  |.slice .full l=>jm sz l=true/\l.length+m.length<=hS/\∀cap,l.length+m.length<=cap->K (w9 fr d (l.flatMap AV.cells++m.flatMap AV.cells++qj ((cap-(l.length+m.length))*sz)) (l.length+m.length) cap) H|.um b g len cap=>g=fr.gen b/\len+m.length<=hS/\match fr.box b with
   |some cs=>cs.length=cap*sz/\(len+m.length<=cap->K {fr with env:=eO fr.env d (.um b g (len+m.length) cap),box:=eO fr.box b (some (setCells cs (len*sz) (m.flatMap AV.cells)))} H)/\(∀a,cap<len+m.length->len+m.length<=a->K (w9 fr d (cs.take (len*sz)++m.flatMap AV.cells++qj ((a-(len+m.length))*sz)) (len+m.length) a) H)|none=>False
  |_=>False
 |_,_=>False
def My{P:Program}{T:cV}{x y:Operand}{t d:Nat}{K:Fr->cc->Prop}{fr:Fr}{H:cc}:Bv P T {callee:=.builtin .append,args:=#[x,y],argTypes:=#[t,t]} (some d) K fr H=Rr P t (ev T fr x) (ev T fr y) d K fr H:=by
 unfold Bv Rr;simp only;cases nS P t with
 |none=>rfl|some p=>
  obtain⟨e,sz⟩:=p;cases ev T fr y<;>simp only[BR];cases ev T fr x<;>rfl
def KO(P:Program)(t:TypeId)(s x:AV)(d:Nat)(K:Fr->cc->Prop)(fr:Fr)(H:cc):Prop:=
 match nS P t,x with
 |some (e,sz),.slice _ m=>
  jm sz m=true/\(fY P e).isSome=true/\0<m.length/\match s with
  |.slice .full l=>jm sz l=true/\l.length+m.length<=hS/\∀cap,l.length+m.length<=cap->K (fr.put (some d) (.oZ H.length 0 (l.length+m.length) cap)) (H++[l.flatMap AV.cells++m.flatMap AV.cells++qj ((cap-(l.length+m.length))*sz)])|.DI=>m.length<=hS/\∀cap,m.length<=cap->K (fr.put (some d) (.oZ H.length 0 m.length cap)) (H++[m.flatMap AV.cells++qj ((cap-m.length)*sz)])|.oZ o off len cap=>off=0/\len+m.length<=hS/\match H[o]?with
   |some cs=>mg cs=true/\cs.length=cap*sz/\(len+m.length<=cap->K (fr.put (some d) (.oZ o 0 (len+m.length) cap)) (H.set o (setCells cs (len*sz) (m.flatMap AV.cells))))/\(∀a,cap<len+m.length->len+m.length<=a->K (fr.put (some d) (.oZ H.length 0 (len+m.length) a)) (H++[cs.take (len*sz)++m.flatMap AV.cells++qj ((a-(len+m.length))*sz)]))|none=>False
  |_=>False
 |_,_=>False
def Ay{P:Program}{T:cV}{x y:Operand}{t d:Nat}{K:Fr->cc->Prop}{fr:Fr}{H:cc}:nJ P T {callee:=.builtin .append,args:=#[x,y],argTypes:=#[t,t]} (some d) K fr H=KO P t (ev T fr x) (ev T fr y) d K fr H:=by
 unfold nJ KO;simp only;cases nS P t with
 |none=>rfl|some p=>
  obtain⟨e,sz⟩:=p;cases ev T fr y<;>simp only[BR];cases ev T fr x<;>rfl
def q9(P:Program)(t:TypeId)(s x:AV)(d:Nat)(K:Fr->cc->Prop)(fr:Fr)(H:cc):Prop:=(z8 P t s x d K fr H\/Rr P t s x d K fr H)\/KO P t s x d K fr H
def IS{P:Program}{T:cV}{x y:Operand}{t d:Nat}{K:Fr->cc->Prop}{fr:Fr}{H:cc}:BN P T {callee:=.builtin .append,args:=#[x,y],argTypes:=#[t,t]} (some d) K fr H=False:=by
 refine propext ⟨λh=>?_,False.elim⟩;unfold BN at h;simp only at h
 split at h
 ·rename_i b a _ _;obtain⟨_,_,hu,_⟩:=lQ b;rw[hu] at a;cases a
 ·exact h
def iz(r_:Nat->Option Nat)(dv:Nat->Nat)(D:List Nat)(tag:Tag)(n:Nat):Prop:=
 tag=.full\/∃k g,k∈D/\tag=.loc k g/\g=dv k/\r_ k=some n
def iz.full{r_:Nat->Option Nat}{dv:Nat->Nat}{D:List Nat}{n:Nat}:iz r_ dv D .full n:=.inl rfl
def iz.new{r_:Nat->Option Nat}{dv:Nat->Nat}{D:List Nat}{n d:Nat}(h:d∈D):iz (eO r_ d (some n)) (eO dv d (dv d+1)) D (.loc d (dv d+1)) n:=
 .inr ⟨d,_,h,rfl,by simp[eO],by simp[eO]⟩
def iz.other{r_:Nat->Option Nat}{dv:Nat->Nat}{D D':List Nat}{tag tag':Tag}{n n' d:Nat}{x:Option Nat}{y:Nat}(h:iz r_ dv D tag n)(i:iz r_ dv D' tag' n')
  (j:∀k,k∈D->k∉D') (e:d∉D):iz (eO (sW tag' r_) d x) (eO dv d y) D tag n:=by
 rcases h with h|⟨k,g,a,l,m,f⟩
 ·exact .inl h
 ·refine .inr ⟨k,g,a,l,?_,?_⟩
  ·have:k≠d:=by rintro rfl;exact e a
   simp[eO,this,m]
  ·have b:k≠d:=by rintro rfl;exact e a
   simp only[eO,b,fL];rcases i with rfl|⟨k',o,c,rfl,_,_⟩
   ·exact f
   ·have:k≠k':=by rintro rfl;exact j k a c
    simp[sW,eO,this,f]
def iz.can{fr:Fr}{D:List Nat}{tag:Tag}{l:List AV}{n:Nat}(h:iz fr.r_ fr.dv D tag n)(hn:n=l.length):nO fr tag l=true:=by
 subst hn;rcases h with rfl|⟨k,g,_,rfl,a,b⟩
 ·rfl
 ·simp[nO,a,b]
def z8.own{P:Program}{t e sz d:Nat}{s x:AV}{K:Fr->cc->Prop}{fr:Fr}{H:cc}{α:Type}{f:α->AV}(l m:List α){D:List Nat}{tag tag':Tag}
  (h:iz fr.r_ fr.dv D tag l.length) (c:nS P t=some (e,sz)) (g:∀x,(f x).cells.length=sz) (hlen:dZ l m=true) (hs:s=.slice tag (l.map f)) (i:x=.slice tag' (m.map f))
  (j:K {fr with env:=eO fr.env d (.slice (.loc d (fr.dv d+1)) ((eA l m).map f)),r_:=eO (sW tag fr.r_) d (some (eA l m).length),dv:=eO fr.dv d (fr.dv d+1)} H):z8 P t s x d K fr H:=by
 subst hs;subst i;have k:=Kv hlen
 have b:∀l:List α,jm sz (l.map f)=true:=λl=>by cases l with|nil=>rfl|cons a l=>simp[jm,g]
 unfold z8;rw[c];refine⟨b l,b m,by simpa[hS,xy] using k,?_⟩;rw[bX (h.can aas)]
 have n:l.map f++m.map f=(eA l m).map f:=by simp[eA]
 have o:(l.map f).length+(m.map f).length=(eA l m).length:=by simp[yR]
 unfold grown;rw[n,o];exact j
def q9.own{P:Program}{t e sz d:Nat}{s x:AV}{K:Fr->cc->Prop}{fr:Fr}{H:cc}{α:Type}{f:α->AV}(l m:List α){D:List Nat}{tag tag':Tag}
  (h:iz fr.r_ fr.dv D tag l.length) (a:nS P t=some (e,sz)) (b:∀x,(f x).cells.length=sz) (hlen:dZ l m=true) (hs:s=.slice tag (l.map f)) (c:x=.slice tag' (m.map f))
  (g:K {fr with env:=eO fr.env d (.slice (.loc d (fr.dv d+1)) ((eA l m).map f)),r_:=eO (sW tag fr.r_) d (some (eA l m).length),dv:=eO fr.dv d (fr.dv d+1)} H):q9 P t s x d K fr H:=
 .inl (.inl (z8.own l m h a b hlen hs c g))
def ic(P:Program)(T:cV)(E:List Nat)(ops:Array Oper)(a:AV)(as:List AV)(d:Option Nat)(rest:List Oper)(K:Fr->cc->Prop)(fr:Fr)(H:cc):Prop:=
 kA P T a as H λr H'=>fK P T E ops rest K (fr.put d r) H'
def UE{P:Program}{T:cV}{q:Qt}{soft:Bool}{a:AV}{as:List AV}{d:Option Nat}{K:Fr->cc->Prop}{fr:Fr}{H H':cc}{r:AV}(h:vw P T a as H r H')(b:soft=true->QK q H H')(c:K (fr.put d r) H'):V0 P T q soft a as d K fr H:=
 ⟨_,h,⟨r,H',rfl,rfl⟩,λg i ⟨e,f⟩=>by subst e;subst f;exact⟨b,c⟩⟩
section
variable{P:Program} {T:cV} {E:List Nat} {ops:Array Oper} {q:Qt} {rest:List Oper} {K:Fr->cc->Prop} {fr:Fr} {H H':cc} {d:Option Nat} {ty:TypeId} {pos:String} {after:Array Edge}
def ic.fn{g:FuncId}{as:List AV}{r:AV}(h:dr P T g as H r H')(a:fK P T E ops rest K (fr.put d r) H'):ic P T E ops (.func (.func g) [] []) as d rest K fr H:=by
 unfold ic kA;simp only[m6,zG];exact h.post a
def ic.TT{g:FuncId}{b c as a:List AV}{r:AV}(e:b++as++c=a)(h:dr P T g a H r H')(f:fK P T E ops rest K (fr.put d r) H'):ic P T E ops (.func (.func g) b c) as d rest K fr H:=by
 subst e;unfold ic kA;exact h.post f
def ic.Wx{g:FuncId}{as:List AV}{Post:AV->cc->Prop}(h:dj P T g as H Post)(a:∀r H',Post r H'->fK P T E ops rest K (fr.put d r) H'):ic P T E ops (.func (.func g) [] []) as d rest K fr H:=by
 unfold ic kA;simp only[m6,zG];exact h.mono a
@[simp] theorem abg:fK P T E ops [] K fr H=K fr H:=rfl
@[simp] theorem YP{x:Operand}:fK P T E ops ({dst:=d,op:=.move x,type:=ty,pos:=pos,after:=after,guard:=none}::rest) K fr H=fK P T E ops rest K (fr.put d (ev T fr x)) H:=rfl
@[simp] theorem Vm{x:Operand}:fK P T E ops ({dst:=d,op:=.assign x,type:=ty,pos:=pos,after:=after,guard:=none}::rest) K fr H=fK P T E ops rest K (fr.put d (ev T fr x)) H:=rfl
@[simp] theorem V5{t:TypeId}:fK P T E ops ({dst:=d,op:=.alloc t,type:=ty,pos:=pos,after:=after,guard:=none}::rest) K fr H=match fY P t with|some z=>jl E d z (fK P T E ops rest K) fr H|none=>False:=rfl
@[simp] theorem abe{t:TypeId}{x:Operand}:fK P T E ops ({dst:=d,op:=.box t x,type:=ty,pos:=pos,after:=after,guard:=none}::rest) K fr H=(dn (ev T fr x)=true/\jl E d (ev T fr x).cells (fK P T E ops rest K) fr H):=rfl
@[simp] theorem Y8{t:TypeId}{x:Operand}:fK P T E ops ({dst:=d,op:=.load t x,type:=ty,pos:=pos,after:=after,guard:=none}::rest) K fr H=match sD P fr H t (ev T fr x)with|some v=>fK P T E ops rest K (fr.put d v) H|none=>False:=rfl
@[simp] theorem V1{t:TypeId}{x y:Operand}:fK P T E ops ({dst:=none,op:=.store t x y,type:=ty,pos:=pos,after:=after,guard:=none}::rest) K fr H=ky P t (ev T fr x) (ev T fr y) (fK P T E ops rest K) fr H:=by simp[fK,DB,p8]
@[simp] theorem QC{t n:Nat}{ps:Array (Nat×Operand)}:fK P T E ops ({dst:=d,op:=.buildSlice t n ps,type:=ty,pos:=pos,after:=after,guard:=none}::rest) K fr H=match lv P t n (ps.toList.map λp=>(p.1,ev T fr p.2))with|some v=>FF E d v (fK P T E ops rest K) fr H|none=>False:=rfl
@[simp] theorem YX{E:List Nat}{d:Option Nat}{v:AV}{K:Fr->cc->Prop}{fr:Fr}{H:cc}:FF E d v K fr H=if d.any E.contains then(match v with|.slice _ l=>K (fr.put d (.oZ H.length 0 l.length l.length)) (H++[l.flatMap AV.cells])|_=>False)else K (fr.put d v) H:=rfl
@[simp] theorem VP{x y:Operand}{t d:Nat}:fK P T E ops ({dst:=some d,op:=.call {callee:=.builtin .append,args:=#[x,y],argTypes:=#[t,t]},type:=ty,pos:=pos,after:=after,guard:=none}::rest) K fr H=q9 P t (ev T fr x) (ev T fr y) d (fK P T E ops rest K) fr H:=by
 simp only[fK,DB,p8];unfold q9;rw[<-Am (T:=T),<-My (T:=T),<-Ay (T:=T),IS,false_or]
@[simp] theorem Y2{f:Operand}{as:Array Operand}{ts:Array TypeId}:fK P T E ops ({dst:=d,op:=.call {callee:=.value f,args:=as,argTypes:=ts},type:=ty,pos:=pos,after:=after,guard:=none}::rest) K fr H=ic P T E ops (ev T fr f) (as.toList.map λx=>(ev T fr x).norm) d rest K fr H:=rfl
@[simp] theorem Z9{as:Array Operand}{ts:Array TypeId}:fK P T E ops ({dst:=d,op:=.call {callee:=.builtin .len,args:=as,argTypes:=ts},type:=ty,pos:=pos,after:=after,guard:=none}::rest) K fr H=match sJ P T fr {callee:=.builtin .len,args:=as,argTypes:=ts}with|some v=>fK P T E ops rest K (fr.put d v) H|none=>False:=rfl
@[simp] theorem ZI{as:Array Operand}{ts:Array TypeId}:fK P T E ops ({dst:=d,op:=.call {callee:=.builtin .max,args:=as,argTypes:=ts},type:=ty,pos:=pos,after:=after,guard:=none}::rest) K fr H=match sJ P T fr {callee:=.builtin .max,args:=as,argTypes:=ts}with|some v=>fK P T E ops rest K (fr.put d v) H|none=>False:=rfl
@[simp] theorem aaM{as:Array Operand}{ts:Array TypeId}:fK P T E ops ({dst:=d,op:=.call {callee:=.builtin .min,args:=as,argTypes:=ts},type:=ty,pos:=pos,after:=after,guard:=none}::rest) K fr H=match sJ P T fr {callee:=.builtin .min,args:=as,argTypes:=ts}with|some v=>fK P T E ops rest K (fr.put d v) H|none=>False:=rfl
@[simp] theorem YO{c a b:Operand}:fK P T E ops ({dst:=d,op:=.pick c a b,type:=ty,pos:=pos,after:=after,guard:=none}::rest) K fr H=match vZ P T fr {dst:=d,op:=.pick c a b,type:=ty,pos:=pos,after:=after,guard:=none}with|some v=>fK P T E ops rest K (fr.put d v) H|none=>False:=rfl
@[simp] theorem Xl{t:TypeId}{ps:Array (Nat×Operand)}:fK P T E ops ({dst:=d,op:=.build t ps,type:=ty,pos:=pos,after:=after,guard:=none}::rest) K fr H=match CQ P t (ps.toList.map λp=>(p.1,ev T fr p.2))with|some v=>fK P T E ops rest K (fr.put d v) H|none=>False:=rfl
@[simp] theorem V_{o:BinOp}{t u:TypeId}{x y:Operand}:fK P T E ops ({dst:=d,op:=.binOp o t x y u,type:=ty,pos:=pos,after:=after,guard:=none}::rest) K fr H=match Eb P o t y (ev T fr x) (ev T fr y)with|some v=>fK P T E ops rest K (fr.put d v) H|none=>False:=rfl
@[simp] theorem YS{o:UnOp}{t:TypeId}{x:Operand}:fK P T E ops ({dst:=d,op:=.unOp o t x,type:=ty,pos:=pos,after:=after,guard:=none}::rest) K fr H=match YI o (ev T fr x)with|some v=>fK P T E ops rest K (fr.put d v) H|none=>False:=rfl
@[simp] theorem Ut{s t:TypeId}{x:Operand}:fK P T E ops ({dst:=d,op:=.convert s t x,type:=ty,pos:=pos,after:=after,guard:=none}::rest) K fr H=Ls P d s t (ev T fr x) (fK P T E ops rest K) fr H:=rfl
@[simp] theorem aa1{s t:TypeId}{d:Option Nat}{x:AV}{K:Fr->cc->Prop}{fr:Fr}{H:cc}:Ls P d s t x K fr H=match KC P s t x with
 |some v=>K (fr.put d v) H|none=>match P.underlying s,P.underlying t,x with
  |some .string,some (.slice e),.sc (.string y)=>P.underlying e=some (.int .u8)/\y.size<=hS/\∀cap k,y.size<=cap->K (fr.put d (.oZ H.length 0 y.size cap)) (H++[nP y++qj k])|_,_,_=>False:=rfl
@[simp] theorem Tf{fn:Fn}{f c:Array Operand}:fK P T E ops ({dst:=d,op:=.makeFunc fn f c,type:=ty,pos:=pos,after:=after,guard:=none}::rest) K fr H=fK P T E ops rest K (fr.put d (.func fn (f.toList.map λx=>(ev T fr x).norm) (c.toList.map λx=>(ev T fr x).norm))) H:=rfl
@[simp] theorem Rm{t i:Nat}{x:Operand}:fK P T E ops ({dst:=d,op:=.fieldAddr t x i,type:=ty,pos:=pos,after:=after,guard:=none}::rest) K fr H=match re P t (ev T fr x) i with|some v=>fK P T E ops rest K (fr.put d v) H|none=>False:=rfl
@[simp] theorem Xn{t i:Nat}{x:Operand}:fK P T E ops ({dst:=d,op:=.field t x i,type:=ty,pos:=pos,after:=after,guard:=none}::rest) K fr H=match CR P t (ev T fr x) i with|some v=>fK P T E ops rest K (fr.put d v) H|none=>False:=rfl
@[simp] theorem QR{t:TypeId}{x i:Operand}:fK P T E ops ({dst:=d,op:=.indexAddr t x i,type:=ty,pos:=pos,after:=after,guard:=none}::rest) K fr H=match f_ P t (ev T fr x) (ev T fr i)with|some v=>fK P T E ops rest K (fr.put d v) H|none=>False:=rfl
@[simp] theorem XM{t:TypeId}{x i:Operand}:fK P T E ops ({dst:=d,op:=.index t x i,type:=ty,pos:=pos,after:=after,guard:=none}::rest) K fr H=match Gb P t (ev T fr x) (ev T fr i)with|some v=>fK P T E ops rest K (fr.put d v) H|none=>False:=rfl
@[simp] theorem X_{t:TypeId}{x:Operand}{lo hi a:Option Operand}:fK P T E ops ({dst:=d,op:=.slice t x lo hi a,type:=ty,pos:=pos,after:=after,guard:=none}::rest) K fr H=match xl P t (ev T fr x) (lo.map (ev T fr)) (hi.map (ev T fr)) (a.map (ev T fr))with|some v=>fK P T E ops rest K (fr.put d v) H|none=>False:=rfl
@[simp] theorem UA{i:Nat}{x:Operand}:fK P T E ops ({dst:=d,op:=.extract x i,type:=ty,pos:=pos,after:=after,guard:=none}::rest) K fr H=match vZ P T fr {dst:=d,op:=.extract x i,type:=ty,pos:=pos,after:=after,guard:=none}with|some v=>fK P T E ops rest K (fr.put d v) H|none=>False:=rfl
@[simp] theorem Tp{x:Operand}:fK P T E ops ({dst:=d,op:=.nilCheck x,type:=ty,pos:=pos,after:=after,guard:=none}::rest) K fr H=match vZ P T fr {dst:=d,op:=.nilCheck x,type:=ty,pos:=pos,after:=after,guard:=none}with|some v=>fK P T E ops rest K (fr.put d v) H|none=>False:=rfl
@[simp] theorem QE{t a:TypeId}{x:Operand}:fK P T E ops ({dst:=d,op:=.typeAssert x a t true,type:=ty,pos:=pos,after:=after,guard:=none}::rest) K fr H=match nN P t (ev T fr x)with|some v=>fK P T E ops rest K (fr.put d v) H|none=>False:=rfl
@[simp] theorem MJ{t:TypeId}{x:Operand}:fK P T E ops ({dst:=d,op:=.makeInterface t x,type:=ty,pos:=pos,after:=after,guard:=none}::rest) K fr H=match vZ P T fr {dst:=d,op:=.makeInterface t x,type:=ty,pos:=pos,after:=after,guard:=none}with|some v=>fK P T E ops rest K (fr.put d v) H|none=>False:=rfl
@[simp] theorem UK{t:TypeId}:fK P T E ops ({dst:=d,op:=.makeMap t none,type:=ty,pos:=pos,after:=after,guard:=none}::rest) K fr H=Fc d (fK P T E ops rest K) fr H:=rfl
@[simp] theorem Sj{t:TypeId}{x i y:Operand}:fK P T E ops ({dst:=none,op:=.mapUpdate t x i y,type:=ty,pos:=pos,after:=after,guard:=none}::rest) K fr H=xp P t (ev T fr x) (ev T fr i) (ev T fr y) (fK P T E ops rest K) fr H:=by simp[fK,DB,p8]
@[simp] theorem W6{t:TypeId}{x:Operand}:fK P T E ops ({dst:=d,op:=.range t x,type:=ty,pos:=pos,after:=after,guard:=none}::rest) K fr H=ES P t (ev T fr x) d (fK P T E ops rest K) fr H:=rfl
@[simp] theorem Xg{x:Operand}:fK P T E ops ({dst:=d,op:=.entry x,type:=ty,pos:=pos,after:=after,guard:=none}::rest) K fr H=match C7 (ev T fr x) H with|some v=>fK P T E ops rest K (fr.put d v) H|none=>False:=rfl
@[simp] theorem Qq{x:Operand}:fK P T E ops ({dst:=d,op:=.next x false,type:=ty,pos:=pos,after:=after,guard:=none}::rest) K fr H=HN (ev T fr x) d (fK P T E ops rest K) fr H:=rfl
@[simp] theorem WM{op:Op}{j:Nat}{want:Bool}:fK P T E ops ({dst:=d,op:=op,type:=ty,pos:=pos,after:=after,guard:=some (j,want)}::rest) K fr H=match(ops[j]?).bind (·.dst)with
 |some g=>match fr.env g with
  |.sc (.bool b)=>if b=want then fK P T E ops ({dst:=d,op:=op,type:=ty,pos:=pos,after:=after,guard:=none}::rest) K fr H else fK P T E ops rest K (fr.put d (.tuple [])) H|.tuple _=>fK P T E ops rest K (fr.put d (.tuple [])) H|_=>False
 |none=>False:=rfl
end
@[simp] theorem Fr.Z2(fr:Fr)(d:Nat)(x:AV):fr.put (some d) x={fr with env:=eO fr.env d x}:=rfl
@[simp] theorem Fr.aan(fr:Fr)(x:AV):fr.put none x=fr:=rfl
@[simp] theorem abF{α:Type}(f:Nat->α)(i:Nat)(x:α)(j:Nat):eO f i x j=if j=i then x else f j:=rfl
@[simp] theorem VX:AV.cells (.undef:AV)=[(.undef:AV)]:=rfl
@[simp] theorem RK:dn (.undef:AV)=true:=rfl
@[simp] theorem U5:AV.gA (.undef:AV)=(.undef:AV):=rfl
@[simp] theorem W2:AV.norm (.undef:AV)=(.undef:AV):=rfl
@[simp] theorem aaf(v:Value):AV.cells (.sc v:AV)=[(.sc v:AV)]:=rfl
@[simp] theorem Vx(v:Value):dn (.sc v:AV)=true:=rfl
@[simp] theorem abh(v:Value):AV.gA (.sc v:AV)=(.sc v:AV):=rfl
@[simp] theorem abO(v:Value):AV.norm (.sc v:AV)=(.sc v:AV):=rfl
@[simp] theorem ab0(P:Program)(ty:TypeId)(v:Value):sG P ty (.sc v:AV)=match dE P ty with|some (false,_)=>true|_=>false:=by
 unfold sG;cases dE P ty with
 |none=>rfl|some p=>obtain⟨b,k⟩:=p;cases b<;>rfl
@[simp] theorem V4(x:AV):AV.cells (.ju x:AV)=[(.ju x:AV)]:=rfl
@[simp] theorem Tl(x:AV):dn (.ju x:AV)=true:=rfl
@[simp] theorem V7(x:AV):AV.gA (.ju x:AV)=(.ju x:AV):=rfl
@[simp] theorem Y9(x:AV):AV.norm (.ju x:AV)=(.ju x:AV):=rfl
@[simp] theorem XG(b g o:Nat):AV.cells (.gx b g o:AV)=[(.gx b g o:AV)]:=rfl
@[simp] theorem Tj(b g o:Nat):dn (.gx b g o:AV)=true:=rfl
@[simp] theorem Yr(b g o:Nat):AV.gA (.gx b g o:AV)=.undef:=rfl
@[simp] theorem Za(b g o:Nat):AV.norm (.gx b g o:AV)=.undef:=rfl
@[simp] theorem Zn(b g o c:Nat):AV.cells (.um b g o c:AV)=[(.um b g o c:AV)]:=rfl
@[simp] theorem TV(b g o c:Nat):dn (.um b g o c:AV)=true:=rfl
@[simp] theorem YA(b g o c:Nat):AV.gA (.um b g o c:AV)=.undef:=rfl
@[simp] theorem aat(b g o c:Nat):AV.norm (.um b g o c:AV)=.undef:=rfl
@[simp] theorem Wb(o f:Nat):AV.cells (.di o f:AV)=[(.di o f:AV)]:=rfl
@[simp] theorem Tb(o f:Nat):dn (.di o f:AV)=true:=rfl
@[simp] theorem WD(o f:Nat):AV.gA (.di o f:AV)=(.di o f:AV):=rfl
@[simp] theorem YB(o f:Nat):AV.norm (.di o f:AV)=(.di o f:AV):=rfl
@[simp] theorem Xy(o:Nat):AV.cells (.nR o:AV)=[(.nR o:AV)]:=rfl
@[simp] theorem Te(o:Nat):dn (.nR o:AV)=true:=rfl
@[simp] theorem V3(o:Nat):AV.gA (.nR o:AV)=(.nR o:AV):=rfl
@[simp] theorem YK(o:Nat):AV.norm (.nR o:AV)=(.nR o:AV):=rfl
@[simp] theorem Y7(o s l c:Nat):AV.cells (.oZ o s l c:AV)=[(.oZ o s l c:AV)]:=rfl
@[simp] theorem TJ(o s l c:Nat):dn (.oZ o s l c:AV)=true:=rfl
@[simp] theorem YW(o s l c:Nat):AV.gA (.oZ o s l c:AV)=(.oZ o s l c:AV):=rfl
@[simp] theorem abw(o s l c:Nat):AV.norm (.oZ o s l c:AV)=(.oZ o s l c:AV):=rfl
@[simp] theorem Yz(o s l c:Nat):AV.ej (.oZ o s l c)=true:=rfl
@[simp] theorem aaH{P:Program}{t:TypeId}{b s n c:Nat}:BE P t (.oZ b s n c)=match P.underlying t with|some (.slice _)=>some (.sc (.int .i64 n))|some (.array n _)=>some (.sc (.int .i64 n))|_=>none:=by
 unfold BE;cases P.underlying t with
 |none=>rfl|some y=>cases y<;>rfl
@[simp] theorem SF{P:Program}{t:TypeId}{k:IntKind}{a:Int}{b s n c:Nat}:f_ P t (.oZ b s n c) (.sc (.int k a))=match P.underlying t with
  |some (.slice e)=>match dE P e with
   |some (_,sz)=>if 0<=a/\a<(n:Int)then some (.di b (s+a.toNat*sz))else none|none=>none
  |_=>none:=by
 unfold f_;cases P.underlying t with
 |none=>rfl|some y=>cases y<;>rfl
@[simp] theorem YC:mg []=false:=rfl
@[simp] theorem WJ(c:AV)(cs:List AV):mg (c::cs)=c.ej:=rfl
@[simp] theorem Z1(v:Value):AV.ej (.sc v)=true:=rfl
@[simp] theorem WT(x:AV):AV.ej (.ju x)=true:=rfl
@[simp] theorem XP(b g o:Nat):AV.ej (.gx b g o)=true:=rfl
@[simp] theorem Wi(o f:Nat):AV.ej (.di o f)=true:=rfl
@[simp] theorem Xv(o:Nat):AV.ej (.nR o)=true:=rfl
@[simp] theorem U'(t:Tag)(l:List AV):AV.ej (.slice t l)=true:=rfl
@[simp] theorem Ym(f:Fn)(a c:List AV):AV.ej (.func f a c)=true:=rfl
@[simp] theorem Vu:AV.ej .undef=true:=rfl
@[simp] theorem YN(b g l c:Nat):AV.ej (.um b g l c)=true:=rfl
@[simp] theorem VG(t:TypeId)(x:AV):AV.ej (.iface t x)=true:=rfl
@[simp] theorem VB(t:Tag)(l:List AV):AV.cells (.slice t l:AV)=[(.slice t l:AV)]:=rfl
@[simp] theorem RD(t:Tag)(l:List AV):dn (.slice t l:AV)=true:=rfl
@[simp] theorem VF(t:Tag)(l:List AV):AV.gA (.slice t l:AV)=.slice .gY l:=rfl
@[simp] theorem Xh(t:Tag)(l:List AV):AV.norm (.slice t l:AV)=.slice .gY l:=rfl
@[simp] theorem WC(P:Program)(ty:TypeId)(t:Tag)(l:List AV):sG P ty (.slice t l:AV)=match dE P ty with|some (false,_)=>true|_=>false:=by
 unfold sG;cases dE P ty with
 |none=>rfl|some p=>obtain⟨b,k⟩:=p;cases b<;>rfl
@[simp] theorem Zf(cs:List AV):AV.cells (.agg cs:AV)=cs:=rfl
@[simp] theorem UU(cs:List AV):dn (.agg cs:AV)=true:=rfl
@[simp] theorem Ze(cs:List AV):AV.gA (.agg cs:AV)=(.agg cs:AV):=rfl
@[simp] theorem abt(cs:List AV):AV.norm (.agg cs:AV)=.agg (cs.map AV.gA):=rfl
@[simp] theorem yG(P:Program)(ty:TypeId)(cs:List AV):sG P ty (.agg cs)=match dE P ty with|some (true,n)=>cs.length==n|_=>false:=by
 unfold sG;cases dE P ty with
 |none=>rfl|some p=>obtain⟨b,k⟩:=p;cases b<;>rfl
@[simp] theorem Vj(cs:List AV):AV.cells (.tuple cs:AV)=[(.tuple cs:AV)]:=rfl
@[simp] theorem SD(cs:List AV):dn (.tuple cs:AV)=false:=rfl
@[simp] theorem Vb(cs:List AV):AV.gA (.tuple cs:AV)=(.tuple cs:AV):=rfl
@[simp] theorem XA(cs:List AV):AV.norm (.tuple cs:AV)=(.tuple cs:AV):=rfl
@[simp] theorem WI(f:Fn)(a c:List AV):AV.cells (.func f a c:AV)=[(.func f a c:AV)]:=rfl
@[simp] theorem Tc(f:Fn)(a c:List AV):dn (.func f a c:AV)=true:=rfl
@[simp] theorem WQ(f:Fn)(a c:List AV):AV.gA (.func f a c:AV)=(.func f a c:AV):=rfl
@[simp] theorem YQ(f:Fn)(a c:List AV):AV.norm (.func f a c:AV)=(.func f a c:AV):=rfl
@[simp] theorem VO(t:TypeId)(x:AV):AV.cells (.iface t x:AV)=[(.iface t x:AV)]:=rfl
@[simp] theorem SV(t:TypeId)(x:AV):dn (.iface t x:AV)=true:=rfl
@[simp] theorem VL(t:TypeId)(x:AV):AV.gA (.iface t x:AV)=(.iface t x:AV):=rfl
@[simp] theorem X9(t:TypeId)(x:AV):AV.norm (.iface t x:AV)=(.iface t x:AV):=rfl
@[simp] theorem Ye(P:Program)(ty t:TypeId)(x:AV):sG P ty (.iface t x:AV)=match dE P ty with|some (false,_)=>true|_=>false:=by
 unfold sG;cases dE P ty with
 |none=>rfl|some p=>obtain⟨b,k⟩:=p;cases b<;>rfl
@[simp] theorem XR(sz:Nat):jm sz []=true:=rfl
@[simp] theorem VC(sz:Nat)(x:AV)(l:List AV):jm sz (x::l)=(x.cells.length==sz):=rfl
def dx(H:cc)(o:Nat)(c:List AV):cc:=H.set o c
@[simp] theorem YF{H:cc}{o:Nat}{x y:List AV}:dx (dx H o x) o y=dx H o y:=by simp[dx]
@[simp] theorem Vn{H:cc}{o:Nat}{x:List AV}:(dx H o x).length=H.length:=by simp[dx]
section
variable{P:Program} {t:TypeId} {k k':IntKind} {a b:Int} {u v:ByteArray} {p q:Bool}
@[simp] theorem aa8{i:Nat}{u v:AV}{op:BinOp}:Eb P op t (.tmp i) u v=oW P op t u v:=rfl
@[simp] theorem ZZ{i:Int}{u v:AV}{op:BinOp}:Eb P op t (.const (.int k i)) u v=oW P op t u v:=rfl
@[simp] theorem Y'{i:Bool}{u v:AV}{op:BinOp}:Eb P op t (.const (.bool i)) u v=oW P op t u v:=rfl
@[simp] theorem Zu{i:ByteArray}{u v:AV}{op:BinOp}:Eb P op t (.const (.string i)) u v=oW P op t u v:=rfl
@[simp] theorem aax{i:Option Addr}{u v:AV}{op:BinOp}:Eb P op t (.const (.pointer i)) u v=oW P op t u v:=rfl
@[simp] theorem abE{u v:AV}{op:BinOp}:Eb P op t (.const .nilFunc) u v=oW P op t u v:=rfl
@[simp] theorem aaL{i:Option Nat}{u v:AV}{op:BinOp}:Eb P op t (.const (.map i)) u v=oW P op t u v:=rfl
@[simp] theorem aaP:oW P .add t (.sc (.int k a)) (.sc (.int k b))=some (.sc (.int k (c8 k a b))):=by simp[oW,vx,qF,c8]
@[simp] theorem aal:oW P .sub t (.sc (.int k a)) (.sc (.int k b))=some (.sc (.int k (dh k a b))):=by simp[oW,vx,qF,dh]
@[simp] theorem abn:oW P .mul t (.sc (.int k a)) (.sc (.int k b))=some (.sc (.int k (zL k a b))):=by simp[oW,vx,qF,zL]
@[simp] theorem abq:oW P .rem t (.sc (.int k a)) (.sc (.int k b))=if IE b then some (.sc (.int k (Ra k a b)))else none:=by
 by_cases h:b=0<;>simp[oW,vx,qF,Ra,IE,h]
@[simp] theorem abj:oW P .eql t (.sc (.int k a)) (.sc (.int k b))=some (.sc (.bool (cn a b))):=by simp[oW,vx,qF,cn]
@[simp] theorem abc:oW P .neq t (.sc (.int k a)) (.sc (.int k b))=some (.sc (.bool (cF a b))):=by simp[oW,vx,qF,cF]
@[simp] theorem aaJ:oW P .lss t (.sc (.int k a)) (.sc (.int k b))=some (.sc (.bool (sg a b))):=by simp[oW,vx,qF,sg]
@[simp] theorem aam:oW P .leq t (.sc (.int k a)) (.sc (.int k b))=some (.sc (.bool (DU a b))):=by simp[oW,vx,qF,DU]
@[simp] theorem ZX:oW P .gtr t (.sc (.int k a)) (.sc (.int k b))=some (.sc (.bool (nG a b))):=by simp[oW,vx,qF,nG]
@[simp] theorem aa3:oW P .geq t (.sc (.int k a)) (.sc (.int k b))=some (.sc (.bool (qJ a b))):=by simp[oW,vx,qF,qJ]
@[simp] theorem abQ:YI .not (.sc (.bool p))=some (.sc (.bool (nT p))):=by simp[YI,nT]
@[simp] theorem YT:OF (.sc (.int k a)) (.sc (.int k' b))=some (.sc (.int k (imax a b))):=rfl
@[simp] theorem Zq:Oy (.sc (.int k a)) (.sc (.int k' b))=some (.sc (.int k (Pe a b))):=rfl
@[simp] theorem aaT{α:Type}{f:α->AV}{tag:Tag}{l:List α}:BE P t (.slice tag (l.map f))=match P.underlying t with|some (.slice _)=>some (.sc (.int .i64 (cI l)))|some (.array n _)=>some (.sc (.int .i64 n))|_=>none:=by
 unfold BE cI;cases P.underlying t with
 |none=>rfl|some y=>cases y<;>simp
@[simp] theorem aaK{tag:Tag}:BE P t (.slice tag [])=match P.underlying t with|some (.slice _)=>some (.sc (.int .i64 0))|some (.array n _)=>some (.sc (.int .i64 n))|_=>none:=by
 unfold BE;cases P.underlying t with
 |none=>rfl|some y=>cases y<;>rfl
@[simp] theorem Yw{tag:Tag}{x:AV}{l:List AV}:BE P t (.slice tag (x::l))=match P.underlying t with|some (.slice _)=>some (.sc (.int .i64 ((l.length+1:Nat):Int)))|some (.array n _)=>some (.sc (.int .i64 n))|_=>none:=by
 unfold BE;cases P.underlying t with
 |none=>rfl|some y=>cases y<;>rfl
@[simp] theorem Ry{α:Type}{f:α->AV}{tag:Tag}{l:List α}:f_ P t (.slice tag (l.map f)) (.sc (.int k a))=match P.underlying t with
  |some (.slice e)=>match cr l a,dE P e with
   |some x,some (_,sz)=>if(f x).cells.length=sz then some (.ju (f x))else none|_,_=>none
  |_=>none:=by
 unfold f_ cr;cases P.underlying t with
 |none=>rfl|some y=>
  cases y<;>try rfl
  rename_i e;simp only[sw]
  by_cases h:0<=a
  ·rw[bX h,bX h];cases l[a.toNat]?with
   |none=>rfl|some x=>cases dE P e<;>rfl
  ·rw[bV h,bV h]
@[simp] theorem QH{tag:Tag}{x:AV}{l:List AV}:f_ P t (.slice tag (x::l)) (.sc (.int k a))=match P.underlying t with
  |some (.slice e)=>if 0<=a then(match(x::l)[a.toNat]?,dE P e with
   |some y,some (_,sz)=>if y.cells.length=sz then some (.ju y)else none|_,_=>none)else none
  |_=>none:=by
 unfold f_;cases P.underlying t with
 |none=>rfl|some y=>cases y<;>rfl
def Fh{α:Type}{f:α->AV}{L:List α}{n e:Nat}(hu:P.underlying t=some (.array n e))(c:dE P e=some (false,1))(hn:L.length=n):f_ P t (.ju (.agg (L.map f))) (.sc (.int k a))=(cr L a).map λx=>.ju (f x):=by
 unfold f_ cr;simp only[hu,c,U3];unfold k0;simp only[c,AV.cells]
 by_cases h:0<=a
 ·rw[bX h]
  by_cases d:a<n
  ·rw[bX ⟨h,d⟩];simp only[sw];cases L[a.toNat]?<;>rfl
  ·rw[bV (λb=>d b.2),Sy VW];rfl
 ·rw[bV h,bV (λb=>h b.1)];rfl
end
attribute [simp] ev ofValue oX xi jl Fc sD k0 re CR CQ Dm lv setCells Br H8 sJ vZ
 pF CK rootOf isG isL KU G8 tm BG
@[simp] theorem Vi{P:Program}{t:TypeId}{b g off:Nat}{v:AV}{K:Fr->cc->Prop}{fr:Fr}{H:cc}:ky P t (.gx b g off) v K fr H=match dE P t with
  |none=>False|some (_,n)=>match fr.box b with
   |some cs=>g=fr.gen b/\v.cells.length=n/\off+n<=cs.length/\dn v=true/\K {fr with box:=eO fr.box b (some (setCells cs off v.cells))} H|none=>False:=by
 unfold ky;cases dE P t with
 |none=>rfl|some p=>rfl
@[simp] theorem Ve{P:Program}{t:TypeId}{o off:Nat}{v:AV}{K:Fr->cc->Prop}{fr:Fr}{H:cc}:ky P t (.di o off) v K fr H=match dE P t with
  |none=>False|some (_,n)=>match H[o]?with
   |some cs=>mg cs=true/\v.cells.length=n/\off+n<=cs.length/\dn v=true/\K fr (H.set o (setCells cs off v.norm.cells))|none=>False:=by
 unfold ky;cases dE P t with
 |none=>rfl|some p=>rfl
def fA.OP{P:Program}{T:cV}{n:Nat}{Q:Exit->Fr->cc->Prop}{fr:Fr}{H:cc}{c:Code}(I:Nat->Fr->cc->Prop)(m:Nat)(g:I m fr H)
  (h:∀m fr H,I m fr H->∀K:Fr->cc->Prop,(∀fr' H' a,a<m->I a fr' H'->K fr' H')->fA P T n c (BG K Q) fr H):fA P T n (.loop c) Q fr H:=by
 refine fA.loop ?_
 have key:∀k fr H,I k fr H->VZ P T n c Q fr H:=by
  intro k
  induction k using Nat.strongRecOn with
  |_ k i=>
   intro fr H j;refine VZ.round (fA.mono (h k fr H j (λfr' H'=>∃a,a<k/\I a fr' H') λfr' H' a b d=>⟨a,b,d⟩) ?_);intro e fr' H' f;cases e with
   |normal=>obtain⟨a,b,d⟩:=f;exact i a b fr' H' d
   |_=>exact f
 exact key m fr H g
def IN(v:AV)(A B:Prop):Prop:=match v with|.sc (.bool t)=>if t then A else B|_=>False
@[simp] theorem Vy(t:Bool)(A B:Prop):IN (.sc (.bool t)) A B=if t then A else B:=rfl
section
variable{P:Program} {T:cV} {n:Nat} {Q:Exit->Fr->cc->Prop} {fr:Fr} {H:cc}
def fA.zQ{c:Operand}{x y:Code}
  (h:∀A B:Fr->cc->Prop,(∀fr H,fA P T n x Q fr H->A fr H)->(∀fr H,fA P T n y Q fr H->B fr H)->IN (ev T fr c) (A fr H) (B fr H)) (d:gW c=true:=by rfl):fA P T n (.cond c x y) Q fr H:=by
 have a:=h (fA P T n x Q) (fA P T n y Q) (λ_ _ h=>h) (λ_ _ h=>h);generalize e:ev T fr c=v at a;cases v with
 |sc w=>
  cases w with
  |bool t=>
   refine fA.cond e d (λb=>?_) (λb=>?_)
   ·subst b;simpa using a
   ·subst b;simpa using a
  |_=>exact a.elim
 |_=>exact a.elim
def fA.sr{id:Nat}{ops:Array Oper}{y:Code}(E:List Nat)(h:∀K:Fr->cc->Prop,(∀fr H,fA P T n y Q fr H->K fr H)->fK P T E ops ops.toList K fr H)(a:yW n ops=true:=by decide+kernel):fA P T n (.seq (.region id ops false) y) Q fr H:=
 fA.Ah λK b=>fA.region E a (h K b)
def fA.Zy{x y:Code}(R:Fr->cc->Prop)(b:∀K:Fr->cc->Prop,(∀fr H,R fr H->K fr H)->fA P T n x (BG K Q) fr H)(c:∀fr H,R fr H->fA P T n y Q fr H):fA P T n (.seq x y) Q fr H:=
 fA.seq ((b R λ_ _ h=>h).mono λe fr' H' a=>by cases e<;>first|exact c _ _ a|exact a)
end
@[simp] theorem range_one:List.range 1=[0]:=rfl
@[simp] theorem aaw:List.range 2=[0,1]:=rfl
@[simp] theorem aaW:List.range 3=[0,1,2]:=rfl
@[simp] theorem aag:List.range 4=[0,1,2,3]:=rfl
@[simp] theorem aaI:List.range 5=[0,1,2,3,4]:=rfl
@[simp] theorem aa9:List.range 6=[0,1,2,3,4,5]:=rfl
@[simp] theorem ZO:List.range 7=[0,1,2,3,4,5,6]:=rfl
@[simp] theorem aaA:List.range 8=[0,1,2,3,4,5,6,7]:=rfl
@[simp] theorem abl:List.range 9=[0,1,2,3,4,5,6,7,8]:=rfl
@[simp] theorem Zl:List.range 10=[0,1,2,3,4,5,6,7,8,9]:=rfl
@[simp] theorem Zb:List.range 11=[0,1,2,3,4,5,6,7,8,9,10]:=rfl
@[simp] theorem Yx:List.range 12=[0,1,2,3,4,5,6,7,8,9,10,11]:=rfl
@[simp] theorem Y0:List.range 13=[0,1,2,3,4,5,6,7,8,9,10,11,12]:=rfl
section
variable{P:Program} {t e sz:Nat} {bl:Bool} {tag:Tag} {α:Type} {k k' k2:IntKind} {a b:Int} {u:ByteArray}
end
def Ft{P:Program}{t e sz:Nat}{b:Bool}{tag:Tag}{α:Type}(f:α->AV)(l:List α)(hu:P.underlying t=some (.slice e))(a:dE P e=some (b,sz))(c:∀x,(f x).cells.length=sz):xl P t (.slice tag (l.map f)) none (some (.sc (.int .i64 (Go.dG.cI l)))) (some (.sc (.int .i64 (Go.dG.cI l))))=some (.slice .full (l.map f)):=by
 have h:jm sz (l.map f)=true:=by
  cases l with
  |nil=>rfl|cons x l=>simp[jm,c x]
 simp[xl,RC,hu,a,h,Go.dG.cI,<-List.map_take]
def rz{α:Type}(f:α->AV)(l:List (Int×α)):AV:=.vp (l.map λp=>Value.int .i64 p.1) (l.map λp=>f p.2)
@[simp] theorem abd{α:Type}(f:α->AV):rz f []=.vp [] []:=rfl
def Rg{α:Type}(l:List (Int×α))(k:Int):mapIdx (l.map λp=>Value.int .i64 p.1) (.int .i64 k)=l.findIdx? (λp=>p.1==k):=by
 unfold mapIdx;rw[List.findIdx?_map];rfl
def Qj{α:Type}(l:List (Int×α)):(l.map λp=>Value.int .i64 p.1).all (LD (.int .i64))=true:=by
 rw[im];intro x a;obtain⟨p,_,rfl⟩:=ll.1 a;rfl
def KG{α:Type}(f:α->AV):∀(l:List (Int×α)) (k:Int) (y:α),Fp (l.map λp=>Value.int .i64 p.1) (l.map λp=>f p.2) (.int .i64 k) (f y)=rz f (tL l k y)
 |[],k,y=>rfl|p::l,k,y=>by
  have a:=KG f l k y;unfold Fp at a|-;rw[Rg] at a|-;rw[Xu];unfold tL
  by_cases h:p.1=k
  ·subst h;simp[rz]
  ·rw[bV (by simpa using h),bV h];cases hi:l.findIdx? (λp=>p.1==k)with
   |none=>
    rw[hi] at a;simp only[rz,AV.vp.injEq] at a;simp[rz,<-a.1,<-a.2]
   |some j=>
    rw[hi] at a;simp only[rz,AV.vp.injEq] at a;simp[rz,<-a.1,<-a.2]
section
variable{P:Program} {t kt e:TypeId} {o:Nat} {k:Int} {α:Type} {f:α->AV} {d:Option Nat} {K:Fr->cc->Prop} {fr:Fr} {H:cc}
def Yt.i64(l:List (Int×α))(y:α){v:AV}(hu:P.underlying t=some (.map kt e))(a:P.underlying kt=some (.int .i64))(b:H[o]?=some [rz f l])(c:v.norm=f y)(d:K fr (dx H o [rz f (tL l k y)])):xp P t (.nR o) (.sc (.int .i64 k)) v K fr H:=by
 unfold xp;simp only[hu,a,b];refine⟨rfl,Qj l,?_⟩;rw[c,KG];exact d
end
end Go.jN
