/- Part of the proof of SchemeAccepted: layer. -/
import Derived.Test.YtpgdkkomegalnaaGreatDoorL8
set_option linter.all false
namespace Go.kY
open Go Go.fN
def BY(P:Program)(t:TypeId)(s x:AV)(d:Nat)(K:Fr->dS->Prop)(fr:Fr)(H:dS):Prop:=
 match n7 P t,s,x with
 |some (_,sz),.slice tag l,.slice _ m=>
  kR sz l=true/\kR sz m=true/\l.length+m.length<=j0/\(if oW fr tag l then K (grown fr d tag l m) H else m=[]/\K (fr.put (some d) (.slice .gx l)) H)
 |_,_,_=>False
def CU{P:Program}{T:eA}{x y:Operand}{t d:Nat}{K:Fr->dS->Prop}{fr:Fr}{H:dS}:nj P T {callee:=.builtin .append,args:=#[x,y],argTypes:=#[t,t]} (some d) K fr H=BY P t (ev T fr x) (ev T fr y) d K fr H:=by
 unfold nj BY;simp only;cases n7 P t with
 |none=>rfl|some p=>grind[ev]
def Xv(P:Program)(t:TypeId)(s x:AV)(d:Nat)(K:Fr->dS->Prop)(fr:Fr)(H:dS):Prop:=
 match n7 P t,x with
 |some (e,sz),.slice _ m=>
  kR sz m=true/\(gl P e).isSome=true/\0<m.length/\match s with
  |.slice .full l=>kR sz l=true/\l.length+m.length<=j0/\∀cap,l.length+m.length<=cap->K (yg fr d (l.flatMap AV.cells++m.flatMap AV.cells++xA ((cap-(l.length+m.length))*sz)) (l.length+m.length) cap) H|.v' b g len cap=>g=fr.gen b/\len+m.length<=j0/\match fr.box b with
   |some cs=>cs.length=cap*sz/\(len+m.length<=cap->K {fr with env:=gA fr.env d (.v' b g (len+m.length) cap),box:=gA fr.box b (some (setCells cs (len*sz) (m.flatMap AV.cells)))} H)/\(∀a,cap<len+m.length->len+m.length<=a->K (yg fr d (cs.take (len*sz)++m.flatMap AV.cells++xA ((a-(len+m.length))*sz)) (len+m.length) a) H)|none=>False
  |_=>False
 |_,_=>False
def Sp{P:Program}{T:eA}{x y:Operand}{t d:Nat}{K:Fr->dS->Prop}{fr:Fr}{H:dS}:Dn P T {callee:=.builtin .append,args:=#[x,y],argTypes:=#[t,t]} (some d) K fr H=Xv P t (ev T fr x) (ev T fr y) d K fr H:=by
 unfold Dn Xv;simp only;cases n7 P t with
 |none=>rfl|some p=>grind[ev]
def acS(P:Program)(t:TypeId)(s x:AV)(d:Nat)(K:Fr->dS->Prop)(fr:Fr)(H:dS):Prop:=
 match n7 P t,x with
 |some (e,sz),.slice _ m=>
  kR sz m=true/\(gl P e).isSome=true/\0<m.length/\match s with
  |.slice .full l=>kR sz l=true/\l.length+m.length<=j0/\∀cap,l.length+m.length<=cap->K (fr.put (some d) (.vj H.length 0 (l.length+m.length) cap)) (H++[l.flatMap AV.cells++m.flatMap AV.cells++xA ((cap-(l.length+m.length))*sz)])|.Gb=>m.length<=j0/\∀cap,m.length<=cap->K (fr.put (some d) (.vj H.length 0 m.length cap)) (H++[m.flatMap AV.cells++xA ((cap-m.length)*sz)])|.vj o off len cap=>off=0/\len+m.length<=j0/\match H[o]?with
   |some cs=>ue cs=true/\cs.length=cap*sz/\(len+m.length<=cap->K (fr.put (some d) (.vj o 0 (len+m.length) cap)) (H.set o (setCells cs (len*sz) (m.flatMap AV.cells))))/\(∀a,cap<len+m.length->len+m.length<=a->K (fr.put (some d) (.vj H.length 0 (len+m.length) a)) (H++[cs.take (len*sz)++m.flatMap AV.cells++xA ((a-(len+m.length))*sz)]))|none=>False
  |_=>False
 |_,_=>False
def Cd{P:Program}{T:eA}{x y:Operand}{t d:Nat}{K:Fr->dS->Prop}{fr:Fr}{H:dS}:oY P T {callee:=.builtin .append,args:=#[x,y],argTypes:=#[t,t]} (some d) K fr H=acS P t (ev T fr x) (ev T fr y) d K fr H:=by
 unfold oY acS;simp only;cases n7 P t with
 |none=>rfl|some p=>grind[ev]
def rC(P:Program)(t:TypeId)(s x:AV)(d:Nat)(K:Fr->dS->Prop)(fr:Fr)(H:dS):Prop:=(BY P t s x d K fr H\/Xv P t s x d K fr H)\/acS P t s x d K fr H
def N3{P:Program}{T:eA}{x y:Operand}{t d:Nat}{K:Fr->dS->Prop}{fr:Fr}{H:dS}:DL P T {callee:=.builtin .append,args:=#[x,y],argTypes:=#[t,t]} (some d) K fr H=False:=by
 refine propext ⟨λh=>?_,False.elim⟩;unfold DL at h;simp only at h
 split at h
 ·rename_i a b _ _;obtain⟨_,_,hu,_⟩:=m9 a
  grind
 ·exact h
def gL(qb:Nat->Option Nat)(fa:Nat->Nat)(D:List Nat)(tag:Tag)(n:Nat):Prop:=
 tag=.full\/∃k g,k∈D/\tag=.loc k g/\g=fa k/\qb k=some n
def gL.full{qb:Nat->Option Nat}{fa:Nat->Nat}{D:List Nat}{n:Nat}:gL qb fa D .full n:=.inl rfl
theorem gL.new{qb:Nat->Option Nat}{fa:Nat->Nat}{D:List Nat}{n d:Nat}(h:d∈D):gL (gA qb d (some n)) (gA fa d (fa d+1)) D (.loc d (fa d+1)) n:=
 .inr ⟨d,_,h,rfl,by simp[gA],by simp[gA]⟩
theorem gL.mono{qb:Nat->Option Nat}{fa:Nat->Nat}{D D':List Nat}{tag:Tag}{n:Nat}(h:gL qb fa D tag n)(a:∀k,k∈D->k∈D'):gL qb fa D' tag n:=by
 rcases h with h|⟨k,g,b,c⟩
 ·exact .inl h
 ·exact .inr ⟨k,g,a k b,c⟩
def gL.other{qb:Nat->Option Nat}{fa:Nat->Nat}{D D':List Nat}{tag a:Tag}{n n' d:Nat}{x:Option Nat}{y:Nat}(h:gL qb fa D tag n)(j:gL qb fa D' a n')
  (l:∀k,k∈D->k∉D') (o:d∉D):gL (gA (uv a qb) d x) (gA fa d y) D tag n:=by
 rcases h with h|⟨k,g,b,q,r,i⟩
 ·exact .inl h
 ·refine .inr ⟨k,g,b,q,?_,?_⟩
  ·grind[gA]
  ·have c:k≠d:=by rintro rfl;exact o b
   simp only[gA,c];rcases j with rfl|⟨k',s,f,rfl,_,_⟩
   ·exact i
   ·have:k≠k':=by rintro rfl;exact l k b f
    simp[uv,gA,this,i]
def gL.can{fr:Fr}{D:List Nat}{tag:Tag}{l:List AV}{n:Nat}(h:gL fr.qb fr.fa D tag n)(hn:n=l.length):oW fr tag l=true:=by
 rcases h with rfl|⟨k,g,_,rfl,a,b⟩
 all_goals grind[oW]
def BY.own{P:Program}{t e sz d:Nat}{s x:AV}{K:Fr->dS->Prop}{fr:Fr}{H:dS}{α:Type}{f:α->AV}(l m:List α){D:List Nat}{tag b:Tag}
  (h:gL fr.qb fr.fa D tag l.length) (i:n7 P t=some (e,sz)) (j:∀x,(f x).cells.length=sz) (hlen:fK l m=true) (hs:s=.slice tag (l.map f)) (k:x=.slice b (m.map f))
  (o:K {fr with env:=gA fr.env d (.slice (.loc d (fr.fa d+1)) ((fT l m).map f)),qb:=gA (uv tag fr.qb) d (some (fT l m).length),fa:=gA fr.fa d (fr.fa d+1)} H):BY P t s x d K fr H:=by
 subst hs;subst k;have n:=Ph hlen
 have c:∀l:List α,kR sz (l.map f)=true:=λl=>by cases l with|nil=>rfl|cons a l=>simp[kR,j]
 unfold BY;rw[i];refine⟨c l,c m,by simpa[j0,uO] using n,?_⟩;rw[dO (h.can LA)]
 grind[fT,grown]
def rC.own{P:Program}{t e sz d:Nat}{s x:AV}{K:Fr->dS->Prop}{fr:Fr}{H:dS}{α:Type}{f:α->AV}(l m:List α){D:List Nat}{tag a:Tag}
  (h:gL fr.qb fr.fa D tag l.length) (b:n7 P t=some (e,sz)) (c:∀x,(f x).cells.length=sz) (hlen:fK l m=true) (hs:s=.slice tag (l.map f)) (i:x=.slice a (m.map f))
  (j:K {fr with env:=gA fr.env d (.slice (.loc d (fr.fa d+1)) ((fT l m).map f)),qb:=gA (uv tag fr.qb) d (some (fT l m).length),fa:=gA fr.fa d (fr.fa d+1)} H):rC P t s x d K fr H:=
 .inl (.inl (BY.own l m h b c hlen hs i j))
def kB(P:Program)(T:eA)(E:List Nat)(ops:Array Oper)(a:AV)(as:List AV)(d:Option Nat)(rest:List Oper)(K:Fr->dS->Prop)(fr:Fr)(H:dS):Prop:=
 nK P T a as H λr H'=>hJ P T E ops rest K (fr.put d r) H'
def yj(P:Program)(T:eA)(E:List Nat)(ops:Array Oper)(q:Qt)(a:AV)(as:List AV)(d:Option Nat)(rest:List Oper)(K:Fr->dS->Prop)(fr:Fr)(H:dS):Prop:=
 if d.any E.contains then Ye P T q true a as d (IH P T E ops q rest K) fr H else∃r H',nu P T a as H r H'/\(QK q H H')/\IH P T E ops q rest K (fr.put d r) H'
theorem MU{P:Program}{T:eA}{q:Qt}{soft:Bool}{a:AV}{as:List AV}{d:Option Nat}{K:Fr->dS->Prop}{fr:Fr}{H H':dS}{r:AV}(h:nu P T a as H r H')(b:soft=true->QK q H H')(c:K (fr.put d r) H'):Ye P T q soft a as d K fr H:=
 ⟨_,h,⟨r,H',rfl,rfl⟩,λj k ⟨f,i⟩=>by subst f;subst i;exact⟨b,c⟩⟩
def yj.of{P:Program}{T:eA}{E:List Nat}{ops:Array Oper}{q:Qt}{rest:List Oper}{K:Fr->dS->Prop}{fr:Fr}{H H':dS}{d:Option Nat}{a:AV}{as:List AV}{r:AV}(h:nu P T a as H r H')(b:QK q H H')(c:IH P T E ops q rest K (fr.put d r) H'):yj P T E ops q a as d rest K fr H:=by
 grind[yj,MU]
section
variable{P:Program} {T:eA} {E:List Nat} {ops:Array Oper} {q:Qt} {rest:List Oper} {K:Fr->dS->Prop} {fr:Fr} {H H':dS} {d:Option Nat} {ty:TypeId} {pos:String} {after:Array Edge}
def kB.fn{g:FuncId}{as:List AV}{r:AV}(h:et P T g as H r H')(a:hJ P T E ops rest K (fr.put d r) H'):kB P T E ops (.func (.func g) [] []) as d rest K fr H:=by
 unfold kB nK;simp only[Bq];exact h.post a
def kB.FL{g:FuncId}{b c as a:List AV}{r:AV}(f:b++as++c=a)(h:et P T g a H r H')(i:hJ P T E ops rest K (fr.put d r) H'):kB P T E ops (.func (.func g) b c) as d rest K fr H:=by
 subst f;exact h.post i
def yj.fn{g:FuncId}{as:List AV}{r:AV}(h:et P T g as H r H')(a:QK q H H')(b:IH P T E ops q rest K (fr.put d r) H'):yj P T E ops q (.func (.func g) [] []) as d rest K fr H:=by
 refine yj.of ?_ a b;unfold nu nK;simp only[Bq];exact h
@[simp] theorem ai9:hJ P T E ops [] K fr H=K fr H:=rfl
@[simp] theorem aiN{x:Operand}:hJ P T E ops ({dst:=d,op:=.move x,type:=ty,pos:=pos,after:=after,guard:=none}::rest) K fr H=hJ P T E ops rest K (fr.put d (ev T fr x)) H:=rfl
@[simp] theorem aeC{x:Operand}:hJ P T E ops ({dst:=d,op:=.assign x,type:=ty,pos:=pos,after:=after,guard:=none}::rest) K fr H=hJ P T E ops rest K (fr.put d (ev T fr x)) H:=rfl
@[simp] theorem ahm{t:TypeId}:hJ P T E ops ({dst:=d,op:=.alloc t,type:=ty,pos:=pos,after:=after,guard:=none}::rest) K fr H=match gl P t with|some z=>kM E d z (hJ P T E ops rest K) fr H|none=>False:=rfl
@[simp] theorem akX{t:TypeId}{x:Operand}:hJ P T E ops ({dst:=d,op:=.box t x,type:=ty,pos:=pos,after:=after,guard:=none}::rest) K fr H=(eU (ev T fr x)=true/\kM E d (ev T fr x).cells (hJ P T E ops rest K) fr H):=rfl
@[simp] theorem aiE{t:TypeId}{x:Operand}:hJ P T E ops ({dst:=d,op:=.load t x,type:=ty,pos:=pos,after:=after,guard:=none}::rest) K fr H=match ud P fr H t (ev T fr x)with|some v=>hJ P T E ops rest K (fr.put d v) H|none=>False:=rfl
@[simp] theorem ahn{t:TypeId}{x y:Operand}:hJ P T E ops ({dst:=none,op:=.store t x y,type:=ty,pos:=pos,after:=after,guard:=none}::rest) K fr H=lZ P t (ev T fr x) (ev T fr y) (hJ P T E ops rest K) fr H:=by simp[hJ,Ec,qy]
@[simp] theorem W6{t n:Nat}{a:Array (Nat×Operand)}:hJ P T E ops ({dst:=d,op:=.buildSlice t n a,type:=ty,pos:=pos,after:=after,guard:=none}::rest) K fr H=match na P t n (a.toList.map λp=>(p.1,ev T fr p.2))with|some v=>Jq E d v (hJ P T E ops rest K) fr H|none=>False:=rfl
@[simp] theorem aiL{E:List Nat}{d:Option Nat}{v:AV}{K:Fr->dS->Prop}{fr:Fr}{H:dS}:Jq E d v K fr H=if d.any E.contains then(match v with|.slice _ l=>K (fr.put d (.vj H.length 0 l.length l.length)) (H++[l.flatMap AV.cells])|_=>False)else K (fr.put d v) H:=rfl
@[simp] theorem aeF{x y:Operand}{t d:Nat}:hJ P T E ops ({dst:=some d,op:=.call {callee:=.builtin .append,args:=#[x,y],argTypes:=#[t,t]},type:=ty,pos:=pos,after:=after,guard:=none}::rest) K fr H=rC P t (ev T fr x) (ev T fr y) d (hJ P T E ops rest K) fr H:=by
 simp only[hJ,Ec,qy];unfold rC;rw[<-CU (T:=T),<-Sp (T:=T),<-Cd (T:=T),N3,false_or]
@[simp] theorem aiu{f:Operand}{as:Array Operand}{ts:Array TypeId}:hJ P T E ops ({dst:=d,op:=.call {callee:=.value f,args:=as,argTypes:=ts},type:=ty,pos:=pos,after:=after,guard:=none}::rest) K fr H=kB P T E ops (ev T fr f) (as.toList.map λx=>(ev T fr x).norm) d rest K fr H:=rfl
@[simp] theorem ai6{as:Array Operand}{ts:Array TypeId}:hJ P T E ops ({dst:=d,op:=.call {callee:=.builtin .len,args:=as,argTypes:=ts},type:=ty,pos:=pos,after:=after,guard:=none}::rest) K fr H=match uf P T fr {callee:=.builtin .len,args:=as,argTypes:=ts}with|some v=>hJ P T E ops rest K (fr.put d v) H|none=>False:=rfl
@[simp] theorem ak8{as:Array Operand}{ts:Array TypeId}:hJ P T E ops ({dst:=d,op:=.call {callee:=.builtin .max,args:=as,argTypes:=ts},type:=ty,pos:=pos,after:=after,guard:=none}::rest) K fr H=match uf P T fr {callee:=.builtin .max,args:=as,argTypes:=ts}with|some v=>hJ P T E ops rest K (fr.put d v) H|none=>False:=rfl
@[simp] theorem akz{as:Array Operand}{ts:Array TypeId}:hJ P T E ops ({dst:=d,op:=.call {callee:=.builtin .min,args:=as,argTypes:=ts},type:=ty,pos:=pos,after:=after,guard:=none}::rest) K fr H=match uf P T fr {callee:=.builtin .min,args:=as,argTypes:=ts}with|some v=>hJ P T E ops rest K (fr.put d v) H|none=>False:=rfl
@[simp] theorem aiG{c a b:Operand}:hJ P T E ops ({dst:=d,op:=.pick c a b,type:=ty,pos:=pos,after:=after,guard:=none}::rest) K fr H=match xw P T fr {dst:=d,op:=.pick c a b,type:=ty,pos:=pos,after:=after,guard:=none}with|some v=>hJ P T E ops rest K (fr.put d v) H|none=>False:=rfl
@[simp] theorem afc{t:TypeId}{a:Array (Nat×Operand)}:hJ P T E ops ({dst:=d,op:=.build t a,type:=ty,pos:=pos,after:=after,guard:=none}::rest) K fr H=match EY P t (a.toList.map λp=>(p.1,ev T fr p.2))with|some v=>hJ P T E ops rest K (fr.put d v) H|none=>False:=rfl
@[simp] theorem ahj{o:BinOp}{t u:TypeId}{x y:Operand}:hJ P T E ops ({dst:=d,op:=.binOp o t x y u,type:=ty,pos:=pos,after:=after,guard:=none}::rest) K fr H=match GU P o t y (ev T fr x) (ev T fr y)with|some v=>hJ P T E ops rest K (fr.put d v) H|none=>False:=rfl
@[simp] theorem ain{o:UnOp}{t:TypeId}{x:Operand}:hJ P T E ops ({dst:=d,op:=.unOp o t x,type:=ty,pos:=pos,after:=after,guard:=none}::rest) K fr H=match unA o (ev T fr x)with|some v=>hJ P T E ops rest K (fr.put d v) H|none=>False:=rfl
@[simp] theorem abo{s t:TypeId}{x:Operand}:hJ P T E ops ({dst:=d,op:=.convert s t x,type:=ty,pos:=pos,after:=after,guard:=none}::rest) K fr H=QT P d s t (ev T fr x) (hJ P T E ops rest K) fr H:=rfl
@[simp] theorem ajC{s t:TypeId}{d:Option Nat}{x:AV}{K:Fr->dS->Prop}{fr:Fr}{H:dS}:QT P d s t x K fr H=match Qj P s t x with
 |some v=>K (fr.put d v) H|none=>match P.underlying s,P.underlying t,x with
  |some .string,some (.slice e),.sc (.string y)=>P.underlying e=some (.int .u8)/\y.size<=j0/\∀cap k,y.size<=cap->K (fr.put d (.vj H.length 0 y.size cap)) (H++[oQ y++xA k])|_,_,_=>False:=rfl
@[simp] theorem aar{fn:Fn}{f c:Array Operand}:hJ P T E ops ({dst:=d,op:=.makeFunc fn f c,type:=ty,pos:=pos,after:=after,guard:=none}::rest) K fr H=hJ P T E ops rest K (fr.put d (.func fn (f.toList.map λx=>(ev T fr x).norm) (c.toList.map λx=>(ev T fr x).norm))) H:=rfl
@[simp] theorem X4{t i:Nat}{x:Operand}:hJ P T E ops ({dst:=d,op:=.fieldAddr t x i,type:=ty,pos:=pos,after:=after,guard:=none}::rest) K fr H=match sO P t (ev T fr x) i with|some v=>hJ P T E ops rest K (fr.put d v) H|none=>False:=rfl
@[simp] theorem agL{t i:Nat}{x:Operand}:hJ P T E ops ({dst:=d,op:=.field t x i,type:=ty,pos:=pos,after:=after,guard:=none}::rest) K fr H=match zP P t (ev T fr x) i with|some v=>hJ P T E ops rest K (fr.put d v) H|none=>False:=rfl
@[simp] theorem Yh{t:TypeId}{x i:Operand}:hJ P T E ops ({dst:=d,op:=.indexAddr t x i,type:=ty,pos:=pos,after:=after,guard:=none}::rest) K fr H=match gy P t (ev T fr x) (ev T fr i)with|some v=>hJ P T E ops rest K (fr.put d v) H|none=>False:=rfl
@[simp] theorem ag7{t:TypeId}{x i:Operand}:hJ P T E ops ({dst:=d,op:=.index t x i,type:=ty,pos:=pos,after:=after,guard:=none}::rest) K fr H=match Jg P t (ev T fr x) (ev T fr i)with|some v=>hJ P T E ops rest K (fr.put d v) H|none=>False:=rfl
@[simp] theorem ahu{t:TypeId}{x:Operand}{lo hi a:Option Operand}:hJ P T E ops ({dst:=d,op:=.slice t x lo hi a,type:=ty,pos:=pos,after:=after,guard:=none}::rest) K fr H=match oN P t (ev T fr x) (lo.map (ev T fr)) (hi.map (ev T fr)) (a.map (ev T fr))with|some v=>hJ P T E ops rest K (fr.put d v) H|none=>False:=rfl
@[simp] theorem ac'{i:Nat}{x:Operand}:hJ P T E ops ({dst:=d,op:=.extract x i,type:=ty,pos:=pos,after:=after,guard:=none}::rest) K fr H=match xw P T fr {dst:=d,op:=.extract x i,type:=ty,pos:=pos,after:=after,guard:=none}with|some v=>hJ P T E ops rest K (fr.put d v) H|none=>False:=rfl
@[simp] theorem aa6{x:Operand}:hJ P T E ops ({dst:=d,op:=.nilCheck x,type:=ty,pos:=pos,after:=after,guard:=none}::rest) K fr H=match xw P T fr {dst:=d,op:=.nilCheck x,type:=ty,pos:=pos,after:=after,guard:=none}with|some v=>hJ P T E ops rest K (fr.put d v) H|none=>False:=rfl
@[simp] theorem WU{t a:TypeId}{x:Operand}:hJ P T E ops ({dst:=d,op:=.typeAssert x a t true,type:=ty,pos:=pos,after:=after,guard:=none}::rest) K fr H=match Ht P t (ev T fr x)with|some v=>hJ P T E ops rest K (fr.put d v) H|none=>False:=rfl
@[simp] theorem SA{t:TypeId}{x:Operand}:hJ P T E ops ({dst:=d,op:=.makeInterface t x,type:=ty,pos:=pos,after:=after,guard:=none}::rest) K fr H=match xw P T fr {dst:=d,op:=.makeInterface t x,type:=ty,pos:=pos,after:=after,guard:=none}with|some v=>hJ P T E ops rest K (fr.put d v) H|none=>False:=rfl
@[simp] theorem acg{t:TypeId}:hJ P T E ops ({dst:=d,op:=.makeMap t none,type:=ty,pos:=pos,after:=after,guard:=none}::rest) K fr H=JC d (hJ P T E ops rest K) fr H:=rfl
@[simp] theorem Zx{t:TypeId}{x i y:Operand}:hJ P T E ops ({dst:=none,op:=.mapUpdate t x i y,type:=ty,pos:=pos,after:=after,guard:=none}::rest) K fr H=rJ P t (ev T fr x) (ev T fr i) (ev T fr y) (hJ P T E ops rest K) fr H:=by simp[hJ,Ec,qy]
@[simp] theorem aet{t:TypeId}{x i y:Operand}:hJ P T E ops ({dst:=none,op:=.insert t x i y,type:=ty,pos:=pos,after:=after,guard:=none}::rest) K fr H=rJ P t (ev T fr x) (ev T fr i) (ev T fr y) (hJ P T E ops rest K) fr H:=by simp[hJ,Ec,qy]
@[simp] theorem afH{t:TypeId}{x:Operand}:hJ P T E ops ({dst:=d,op:=.range t x,type:=ty,pos:=pos,after:=after,guard:=none}::rest) K fr H=Jv P t (ev T fr x) d (hJ P T E ops rest K) fr H:=rfl
@[simp] theorem afl{x:Operand}:hJ P T E ops ({dst:=d,op:=.entry x,type:=ty,pos:=pos,after:=after,guard:=none}::rest) K fr H=match E4 (ev T fr x) H with|some v=>hJ P T E ops rest K (fr.put d v) H|none=>False:=rfl
@[simp] theorem VJ{x:Operand}:hJ P T E ops ({dst:=d,op:=.next x false,type:=ty,pos:=pos,after:=after,guard:=none}::rest) K fr H=Ls (ev T fr x) d (hJ P T E ops rest K) fr H:=rfl
@[simp] theorem ahq{op:Op}{j:Nat}{want:Bool}:hJ P T E ops ({dst:=d,op:=op,type:=ty,pos:=pos,after:=after,guard:=some (j,want)}::rest) K fr H=match(ops[j]?).bind (·.dst)with
 |some g=>match fr.env g with
  |.sc (.bool b)=>if b=want then hJ P T E ops ({dst:=d,op:=op,type:=ty,pos:=pos,after:=after,guard:=none}::rest) K fr H else hJ P T E ops rest K (fr.put d (.tuple [])) H|.tuple _=>hJ P T E ops rest K (fr.put d (.tuple [])) H|_=>False
 |none=>False:=rfl
end
@[simp] theorem Fr.aj7(fr:Fr)(d:Nat)(x:AV):fr.put (some d) x={fr with env:=gA fr.env d x}:=rfl
@[simp] theorem Fr.ajx(fr:Fr)(x:AV):fr.put none x=fr:=rfl
@[simp] theorem alZ{α:Type}(f:Nat->α)(i:Nat)(x:α)(j:Nat):gA f i x j=if j=i then x else f j:=rfl
@[simp] theorem aem:AV.cells (.undef:AV)=[(.undef:AV)]:=rfl
@[simp] theorem Zk:eU (.undef:AV)=true:=rfl
@[simp] theorem ae2:AV.iV (.undef:AV)=(.undef:AV):=rfl
@[simp] theorem afL:AV.norm (.undef:AV)=(.undef:AV):=rfl
@[simp] theorem alj(v:Value):AV.cells (.sc v:AV)=[(.sc v:AV)]:=rfl
@[simp] theorem aef(v:Value):eU (.sc v:AV)=true:=rfl
@[simp] theorem akq(v:Value):AV.iV (.sc v:AV)=(.sc v:AV):=rfl
@[simp] theorem alL(v:Value):AV.norm (.sc v:AV)=(.sc v:AV):=rfl
@[simp] theorem alQ(P:Program)(ty:TypeId)(v:Value):tx P ty (.sc v:AV)=match fu P ty with|some (false,_)=>true|_=>false:=by
 unfold tx;cases fu P ty with
 |none=>rfl|some p=>grind
@[simp] theorem ag2(x:AV):AV.cells (.kU x:AV)=[(.kU x:AV)]:=rfl
@[simp] theorem aax(x:AV):eU (.kU x:AV)=true:=rfl
@[simp] theorem agW(x:AV):AV.iV (.kU x:AV)=(.kU x:AV):=rfl
@[simp] theorem aiU(x:AV):AV.norm (.kU x:AV)=(.kU x:AV):=rfl
@[simp] theorem afX(b g o:Nat):AV.cells (.gX b g o:AV)=[(.gX b g o:AV)]:=rfl
@[simp] theorem aaj(b g o:Nat):eU (.gX b g o:AV)=true:=rfl
@[simp] theorem ahP(b g o:Nat):AV.iV (.gX b g o:AV)=.undef:=rfl
@[simp] theorem ah9(b g o:Nat):AV.norm (.gX b g o:AV)=.undef:=rfl
@[simp] theorem aih(b g o c:Nat):AV.cells (.v' b g o c:AV)=[(.v' b g o c:AV)]:=rfl
@[simp] theorem ab3(b g o c:Nat):eU (.v' b g o c:AV)=true:=rfl
@[simp] theorem aij(b g o c:Nat):AV.iV (.v' b g o c:AV)=.undef:=rfl
@[simp] theorem aiZ(b g o c:Nat):AV.norm (.v' b g o c:AV)=.undef:=rfl
@[simp] theorem ahT(o f:Nat):AV.cells (.eK o f:AV)=[(.eK o f:AV)]:=rfl
@[simp] theorem aae(o f:Nat):eU (.eK o f:AV)=true:=rfl
@[simp] theorem afK(o f:Nat):AV.iV (.eK o f:AV)=(.eK o f:AV):=rfl
@[simp] theorem aiI(o f:Nat):AV.norm (.eK o f:AV)=(.eK o f:AV):=rfl
@[simp] theorem afF(o:Nat):AV.cells (.nH o:AV)=[(.nH o:AV)]:=rfl
@[simp] theorem aak(o:Nat):eU (.nH o:AV)=true:=rfl
@[simp] theorem afW(o:Nat):AV.iV (.nH o:AV)=(.nH o:AV):=rfl
@[simp] theorem ah3(o:Nat):AV.norm (.nH o:AV)=(.nH o:AV):=rfl
@[simp] theorem aim(o s l c:Nat):AV.cells (.vj o s l c:AV)=[(.vj o s l c:AV)]:=rfl
@[simp] theorem acw(o s l c:Nat):eU (.vj o s l c:AV)=true:=rfl
@[simp] theorem air(o s l c:Nat):AV.iV (.vj o s l c:AV)=(.vj o s l c:AV):=rfl
@[simp] theorem ajj(o s l c:Nat):AV.norm (.vj o s l c:AV)=(.vj o s l c:AV):=rfl
@[simp] theorem aic(o s l c:Nat):AV.gf (.vj o s l c)=true:=rfl
@[simp] theorem aiK:ue []=false:=rfl
@[simp] theorem ahI(c:AV)(cs:List AV):ue (c::cs)=c.gf:=rfl
@[simp] theorem ak'(v:Value):AV.gf (.sc v)=true:=rfl
@[simp] theorem afT(x:AV):AV.gf (.kU x)=true:=rfl
@[simp] theorem ag0(b g o:Nat):AV.gf (.gX b g o)=true:=rfl
@[simp] theorem af'(o f:Nat):AV.gf (.eK o f)=true:=rfl
@[simp] theorem afA(o:Nat):AV.gf (.nH o)=true:=rfl
@[simp] theorem adM(t:Tag)(l:List AV):AV.gf (.slice t l)=true:=rfl
@[simp] theorem ag_(f:Fn)(a c:List AV):AV.gf (.func f a c)=true:=rfl
@[simp] theorem aeu:AV.gf .undef=true:=rfl
@[simp] theorem ah_(b g l c:Nat):AV.gf (.v' b g l c)=true:=rfl
@[simp] theorem adA(t:TypeId)(x:AV):AV.gf (.iface t x)=true:=rfl
@[simp] theorem aeh(t:Tag)(l:List AV):AV.cells (.slice t l:AV)=[(.slice t l:AV)]:=rfl
@[simp] theorem ZH(t:Tag)(l:List AV):eU (.slice t l:AV)=true:=rfl
@[simp] theorem aeD(t:Tag)(l:List AV):AV.iV (.slice t l:AV)=.slice .gx l:=rfl
@[simp] theorem aff(t:Tag)(l:List AV):AV.norm (.slice t l:AV)=.slice .gx l:=rfl
@[simp] theorem af1(P:Program)(ty:TypeId)(t:Tag)(l:List AV):tx P ty (.slice t l:AV)=match fu P ty with|some (false,_)=>true|_=>false:=by
 unfold tx;cases fu P ty with
 |none=>rfl|some p=>grind
@[simp] theorem aiw(cs:List AV):AV.cells (.agg cs:AV)=cs:=rfl
@[simp] theorem ab2(cs:List AV):eU (.agg cs:AV)=true:=rfl
@[simp] theorem aii(cs:List AV):AV.iV (.agg cs:AV)=(.agg cs:AV):=rfl
@[simp] theorem akd(cs:List AV):AV.norm (.agg cs:AV)=.agg (cs.map AV.iV):=rfl
@[simp] theorem tM(P:Program)(ty:TypeId)(cs:List AV):tx P ty (.agg cs)=match fu P ty with|some (true,n)=>cs.length==n|_=>false:=by
 unfold tx;cases fu P ty with
 |none=>rfl|some p=>grind
@[simp] theorem aeN(cs:List AV):AV.cells (.tuple cs:AV)=[(.tuple cs:AV)]:=rfl
@[simp] theorem ZS(cs:List AV):eU (.tuple cs:AV)=false:=rfl
@[simp] theorem aes(cs:List AV):AV.iV (.tuple cs:AV)=(.tuple cs:AV):=rfl
@[simp] theorem agH(cs:List AV):AV.norm (.tuple cs:AV)=(.tuple cs:AV):=rfl
@[simp] theorem af0(f:Fn)(a c:List AV):AV.cells (.func f a c:AV)=[(.func f a c:AV)]:=rfl
@[simp] theorem aaF(f:Fn)(a c:List AV):eU (.func f a c:AV)=true:=rfl
@[simp] theorem agR(f:Fn)(a c:List AV):AV.iV (.func f a c:AV)=(.func f a c:AV):=rfl
@[simp] theorem aiA(f:Fn)(a c:List AV):AV.norm (.func f a c:AV)=(.func f a c:AV):=rfl
@[simp] theorem aeB(t:TypeId)(x:AV):AV.cells (.iface t x:AV)=[(.iface t x:AV)]:=rfl
@[simp] theorem ZU(t:TypeId)(x:AV):eU (.iface t x:AV)=true:=rfl
@[simp] theorem aeZ(t:TypeId)(x:AV):AV.iV (.iface t x:AV)=(.iface t x:AV):=rfl
@[simp] theorem afY(t:TypeId)(x:AV):AV.norm (.iface t x:AV)=(.iface t x:AV):=rfl
@[simp] theorem ahV(sz:Nat):kR sz []=true:=rfl
@[simp] theorem adL(sz:Nat)(x:AV)(l:List AV):kR sz (x::l)=(x.cells.length==sz):=rfl
def fo(H:dS)(o:Nat)(c:List AV):dS:=H.set o c
@[simp] theorem ah2{H:dS}{o:Nat}{x y:List AV}:fo (fo H o x) o y=fo H o y:=by simp[fo]
section
variable{P:Program} {t:TypeId} {k k':IntKind} {a b:Int} {u v:ByteArray} {p q:Bool}
@[simp] theorem ajr{i:Nat}{u v:AV}{op:BinOp}:GU P op t (.tmp i) u v=oD P op t u v:=rfl
@[simp] theorem alc{i:Int}{u v:AV}{op:BinOp}:GU P op t (.const (.int k i)) u v=oD P op t u v:=rfl
@[simp] theorem aiP{i:Bool}{u v:AV}{op:BinOp}:GU P op t (.const (.bool i)) u v=oD P op t u v:=rfl
@[simp] theorem ajZ{i:ByteArray}{u v:AV}{op:BinOp}:GU P op t (.const (.string i)) u v=oD P op t u v:=rfl
@[simp] theorem akb{i:Option Addr}{u v:AV}{op:BinOp}:GU P op t (.const (.pointer i)) u v=oD P op t u v:=rfl
@[simp] theorem alN{u v:AV}{op:BinOp}:GU P op t (.const .nilFunc) u v=oD P op t u v:=rfl
@[simp] theorem akR{i:Option Nat}{u v:AV}{op:BinOp}:GU P op t (.const (.map i)) u v=oD P op t u v:=rfl
@[simp] theorem aje:oD P .add t (.sc (.int k a)) (.sc (.int k b))=some (.sc (.int k (eL k a b))):=by simp[oD,tj,qm,eL]
@[simp] theorem akC:oD P .sub t (.sc (.int k a)) (.sc (.int k b))=some (.sc (.int k (fH k a b))):=by simp[oD,tj,qm,fH]
@[simp] theorem akh:oD P .mul t (.sc (.int k a)) (.sc (.int k b))=some (.sc (.int k (Nc k a b))):=by simp[oD,tj,qm,Nc]
@[simp] theorem akF:oD P .rem t (.sc (.int k a)) (.sc (.int k b))=if L8 b then some (.sc (.int k (YV k a b)))else none:=by grind[oD,tj,qm,YV,L8]
@[simp] theorem aki:oD P .and t (.sc (.int k a)) (.sc (.int k b))=some (.sc (.int k (tF k a b))):=by simp[oD,tj,qm,tF]
@[simp] theorem alG:oD P .or t (.sc (.int k a)) (.sc (.int k b))=some (.sc (.int k (Fl k a b))):=by simp[oD,tj,qm,Fl]
@[simp] theorem ajs:oD P .shl t (.sc (.int k a)) (.sc (.int k' b))=if Ml b then some (.sc (.int k (Z4 k a b)))else none:=by grind[oD,tj,Z4,Ml]
@[simp] theorem ai2:oD P .shr t (.sc (.int k a)) (.sc (.int k' b))=if Ml b then some (.sc (.int k (Zt k a b)))else none:=by grind[oD,tj,Zt,Ml]
@[simp] theorem ajv:oD P .eql t (.sc (.int k a)) (.sc (.int k b))=some (.sc (.bool (ee a b))):=by simp[oD,tj,qm,ee]
@[simp] theorem akN:oD P .neq t (.sc (.int k a)) (.sc (.int k b))=some (.sc (.bool (eD a b))):=by simp[oD,tj,qm,eD]
@[simp] theorem ajt:oD P .lss t (.sc (.int k a)) (.sc (.int k b))=some (.sc (.bool (rA a b))):=by simp[oD,tj,qm,rA]
@[simp] theorem akH:oD P .leq t (.sc (.int k a)) (.sc (.int k b))=some (.sc (.bool (UD a b))):=by simp[oD,tj,qm,UD]
@[simp] theorem alq:oD P .gtr t (.sc (.int k a)) (.sc (.int k b))=some (.sc (.bool (oC a b))):=by simp[oD,tj,qm,oC]
@[simp] theorem akx:oD P .geq t (.sc (.int k a)) (.sc (.int k b))=some (.sc (.bool (qn a b))):=by simp[oD,tj,qm,qn]
@[simp] theorem alT:unA .not (.sc (.bool p))=some (.sc (.bool (m6 p))):=by simp[unA,m6]
@[simp] theorem aiB:T8 (.sc (.int k a)) (.sc (.int k' b))=some (.sc (.int k (imax a b))):=rfl
@[simp] theorem akA{α:Type}{f:α->AV}{tag:Tag}{l:List α}:Gz P t (.slice tag (l.map f))=match P.underlying t with|some (.slice _)=>some (.sc (.int .i64 (ey l)))|some (.array n _)=>some (.sc (.int .i64 n))|_=>none:=by
 unfold Gz ey;cases P.underlying t with
 |none=>rfl|some y=>grind
@[simp] theorem akZ{tag:Tag}:Gz P t (.slice tag [])=match P.underlying t with|some (.slice _)=>some (.sc (.int .i64 0))|some (.array n _)=>some (.sc (.int .i64 n))|_=>none:=by
 unfold Gz;cases P.underlying t with
 |none=>rfl|some y=>grind
@[simp] theorem aiX{tag:Tag}{x:AV}{l:List AV}:Gz P t (.slice tag (x::l))=match P.underlying t with|some (.slice _)=>some (.sc (.int .i64 ((l.length+1:Nat):Int)))|some (.array n _)=>some (.sc (.int .i64 n))|_=>none:=by
 unfold Gz;cases P.underlying t with
 |none=>rfl|some y=>grind
@[simp] theorem YB{α:Type}{f:α->AV}{tag:Tag}{l:List α}:gy P t (.slice tag (l.map f)) (.sc (.int k a))=match P.underlying t with
  |some (.slice e)=>match dX l a,fu P e with
   |some x,some (_,sz)=>if(f x).cells.length=sz then some (.kU (f x))else none|_,_=>none
  |_=>none:=by
 unfold gy dX;cases P.underlying t with
 |none=>rfl|some y=>
  cases y<;>try rfl
  rename_i e;simp only[Co]
  by_cases h:0<=a
  ·rw[dO h,dO h];cases l[a.toNat]?with
   |none=>rfl|some x=>cases fu P e<;>rfl
  ·rw[dI h,dI h]
def HO{α:Type}{f:α->AV}{L:List α}{n e:Nat}(hu:P.underlying t=some (.array n e))(b:fu P e=some (false,1))(hn:L.length=n):gy P t (.kU (.agg (L.map f))) (.sc (.int k a))=(dX L a).map λx=>.kU (f x):=by
 unfold gy dX
 grind[mr,AV.cells]
end
attribute [simp] ev ofValue qk yk kM JC ud mr sO zP EY F6 na setCells D8 LO uf xw
 qI E5 rootOf isG isL Rq K0 vk Dc
@[simp] theorem aeq{P:Program}{t:TypeId}{b g off:Nat}{v:AV}{K:Fr->dS->Prop}{fr:Fr}{H:dS}:lZ P t (.gX b g off) v K fr H=match fu P t with
  |none=>False|some (_,n)=>match fr.box b with
   |some cs=>g=fr.gen b/\v.cells.length=n/\off+n<=cs.length/\eU v=true/\K {fr with box:=gA fr.box b (some (setCells cs off v.cells))} H|none=>False:=by
 unfold lZ;cases fu P t with
 |none=>rfl|some p=>rfl
@[simp] theorem adV{P:Program}{t:TypeId}{o off:Nat}{v:AV}{K:Fr->dS->Prop}{fr:Fr}{H:dS}:lZ P t (.eK o off) v K fr H=match fu P t with
  |none=>False|some (_,n)=>match H[o]?with
   |some cs=>ue cs=true/\v.cells.length=n/\off+n<=cs.length/\eU v=true/\K fr (H.set o (setCells cs off v.norm.cells))|none=>False:=by
 unfold lZ;cases fu P t with
 |none=>rfl|some p=>rfl
def gd.Pl{P:Program}{T:eA}{n:Nat}{Q:Exit->Fr->dS->Prop}{fr:Fr}{H:dS}{c:Code}(I:Nat->Fr->dS->Prop)(m:Nat)(b:I m fr H)
  (d:∀m fr H,I m fr H->∀K:Fr->dS->Prop,(∀fr' H' a,a<m->I a fr' H'->K fr' H')->gd P T n c (Dc K Q) fr H):gd P T n (.loop c) Q fr H:=by
 refine gd.loop ?_
 have key:∀k fr H,I k fr H->ALp P T n c Q fr H:=by
  intro k
  induction k using Nat.strongRecOn with
  |_ k ih=>grind[ALp.round,gd.mono]
 grind
def MV(v:AV)(A B:Prop):Prop:=match v with|.sc (.bool t)=>if t then A else B|_=>False
@[simp] theorem ad3(t:Bool)(A B:Prop):MV (.sc (.bool t)) A B=if t then A else B:=rfl
section
variable{P:Program} {T:eA} {n:Nat} {Q:Exit->Fr->dS->Prop} {fr:Fr} {H:dS}
def gd.tA{c:Operand}{x y:Code}
  (h:∀A B:Fr->dS->Prop,(∀fr H,gd P T n x Q fr H->A fr H)->(∀fr H,gd P T n y Q fr H->B fr H)->MV (ev T fr c) (A fr H) (B fr H)) (b:jk c=true:=by rfl):gd P T n (.cond c x y) Q fr H:=by
 have a:=h (gd P T n x Q) (gd P T n y Q) (λ_ _ h=>h) (λ_ _ h=>h);generalize d:ev T fr c=v at a;cases v with
 |sc w=>
  cases w with
  |bool t=>
   refine gd.cond d b (λf=>?_) (λf=>?_)
   all_goals simp_all
  |_=>exact a.elim
 |_=>exact a.elim
def gd.sr{id:Nat}{ops:Array Oper}{y:Code}(E:List Nat)(h:∀K:Fr->dS->Prop,(∀fr H,gd P T n y Q fr H->K fr H)->hJ P T E ops ops.toList K fr H)(a:xZ n ops=true:=by decide+kernel):gd P T n (.seq (.region id ops false) y) Q fr H:=
 gd.tR λK b=>gd.region E a (h K b)
def gd.akf{x y:Code}(R:Fr->dS->Prop)(b:∀K:Fr->dS->Prop,(∀fr H,R fr H->K fr H)->gd P T n x (Dc K Q) fr H)(c:∀fr H,R fr H->gd P T n y Q fr H):gd P T n (.seq x y) Q fr H:=
 gd.seq ((b R λ_ _ h=>h).mono λe fr' H' a=>by cases e<;>first|exact c _ _ a|exact a)
end
@[simp] theorem range_one:List.range 1=[0]:=rfl
@[simp] theorem aj2:List.range 2=[0,1]:=rfl
@[simp] theorem akI:List.range 3=[0,1,2]:=rfl
@[simp] theorem alr:List.range 4=[0,1,2,3]:=rfl
@[simp] theorem aku:List.range 5=[0,1,2,3,4]:=rfl
@[simp] theorem akK:List.range 6=[0,1,2,3,4,5]:=rfl
@[simp] theorem ajq:List.range 7=[0,1,2,3,4,5,6]:=rfl
@[simp] theorem ajn:List.range 8=[0,1,2,3,4,5,6,7]:=rfl
@[simp] theorem ajL:List.range 9=[0,1,2,3,4,5,6,7,8]:=rfl
@[simp] theorem aiQ:List.range 10=[0,1,2,3,4,5,6,7,8,9]:=rfl
@[simp] theorem ah4:List.range 11=[0,1,2,3,4,5,6,7,8,9,10]:=rfl
@[simp] theorem ah8:List.range 12=[0,1,2,3,4,5,6,7,8,9,10,11]:=rfl
@[simp] theorem aiV:List.range 13=[0,1,2,3,4,5,6,7,8,9,10,11,12]:=rfl
section
variable{P:Program} {t e sz:Nat} {bl:Bool} {tag:Tag} {α:Type} {k k' k2:IntKind} {a b:Int} {u:ByteArray}
def ac2(h:0<=a):MI (some (.sc (.int k a)))=some (some a.toNat):=by simp[MI,h]
theorem acM(h:¬0<=a):MI (some (.sc (.int k a)))=none:=by simp[MI,h]
theorem M9{x:AV}{lo hi:Option AV}(h:MI lo=none):oN P t x lo hi none=none:=by unfold oN;rw[h]
def PC{lo hi:Option AV}{a hi':Option Nat}(b:MI lo=some a)(c:MI hi=some hi')(f:α->AV)(l:List α)(hu:P.underlying t=some (.slice e))(d:fu P e=some (bl,sz))(i:∀x,(f x).cells.length=sz):oN P t (.slice tag (l.map f)) lo hi none=if hi'.getD l.length<=l.length/\a.getD 0<=hi'.getD l.length then some (.slice .gx (((l.take (hi'.getD l.length)).drop (a.getD 0)).map f))else none:=by
 have h:kR sz (l.map f)=true:=by
  cases l with
  |nil=>rfl|cons x l=>simp_all
 unfold oN;rw[b,c];simp only[MI,hu,d,h];simp
def O6(f:α->AV)(l:List α)(hu:P.underlying t=some (.slice e))(b:fu P e=some (bl,sz))(c:∀x,(f x).cells.length=sz):oN P t (.slice tag (l.map f)) (some (.sc (.int k a))) none none=(Ag l a (ey l)).map λr=>.slice .gx (r.map f):=by
 unfold Ag ey
 by_cases d:0<=a
 ·rw[PC (ac2 d) (hi:=none) (hi':=none) rfl f l hu b c]
  grind
 ·grind[M9,acM]
end
def vb{P:Program}{t e sz:Nat}{b:Bool}{tag:Tag}{α:Type}(f:α->AV)(l:List α)(hu:P.underlying t=some (.slice e))(a:fu P e=some (b,sz))(c:∀x,(f x).cells.length=sz):oN P t (.slice tag (l.map f)) none (some (.sc (.int .i64 (Go.fN.ey l)))) (some (.sc (.int .i64 (Go.fN.ey l))))=some (.slice .full (l.map f)):=by
 have h:kR sz (l.map f)=true:=by
  cases l with
  |nil=>rfl|cons x l=>simp_all
 simp[oN,MI,hu,a,h,Go.fN.ey,<-List.map_take]
def tJ{α:Type}(f:α->AV)(l:List (Int×α)):AV:=.tO (l.map λp=>Value.int .i64 p.1) (l.map λp=>f p.2)
@[simp] theorem ai'{α:Type}(f:α->AV):tJ f []=.tO [] []:=rfl
def Yv{α:Type}(l:List (Int×α))(k:Int):mapIdx (l.map λp=>Value.int .i64 p.1) (.int .i64 k)=l.findIdx? (λp=>p.1==k):=by
 unfold mapIdx;rw[List.findIdx?_map];rfl
def VK{α:Type}(l:List (Int×α)):(l.map λp=>Value.int .i64 p.1).all (Hy (.int .i64))=true:=by
 rw[kE];intro x a;obtain⟨p,_,rfl⟩:=qq.1 a;rfl
def Pq{α:Type}(f:α->AV):∀(l:List (Int×α)) (k:Int) (y:α),Ez (l.map λp=>Value.int .i64 p.1) (l.map λp=>f p.2) (.int .i64 k) (f y)=tJ f (vu l k y)
 |[],k,y=>rfl|p::l,k,y=>by
  have ih:=Pq f l k y;unfold Ez at ih|-;rw[Yv] at ih|-;rw[agl];unfold vu
  by_cases h:p.1=k
  ·grind[tJ]
  ·rw[dI (by simpa using h),dI h];cases hi:l.findIdx? (λp=>p.1==k)with
   |none=>
    rw[hi] at ih;simp only[tJ,AV.tO.injEq] at ih;simp[tJ,<-ih.1,<-ih.2]
   |some j=>
    rw[hi] at ih;simp only[tJ,AV.tO.injEq] at ih;simp[tJ,<-ih.1,<-ih.2]
section
variable{P:Program} {t kt e:TypeId} {o:Nat} {k:Int} {α:Type} {f:α->AV} {d:Option Nat} {K:Fr->dS->Prop} {fr:Fr} {H:dS}
def tq.i64(l:List (Int×α))(y:α){v:AV}(hu:P.underlying t=some (.map kt e))(a:P.underlying kt=some (.int .i64))(b:H[o]?=some [tJ f l])(c:v.norm=f y)(d:K fr (fo H o [tJ f (vu l k y)])):rJ P t (.nH o) (.sc (.int .i64 k)) v K fr H:=by
 unfold rJ;simp only[hu,a,b];refine⟨rfl,VK l,?_⟩;rw[c,Pq];exact d
end
end Go.kY
