/- Part of the proof of SchemeLists: layer. -/
import Derived.Test.YtpgdkkomegalnaaGreatDoorLL8
set_option linter.all false
namespace Go.kY
open Go Go.fD
def CE(P:Program)(t:TypeId)(s x:AV)(d:Nat)(K:Fr->dY->Prop)(fr:Fr)(H:dY):Prop:=
 match oi P t,s,x with
 |some (_,sz),.slice tag l,.slice _ m=>
  la sz l=true/\la sz m=true/\l.length+m.length<=kc/\(if o5 fr tag l then K (grown fr d tag l m) H else m=[]/\K (fr.put (some d) (.slice .gI l)) H)
 |_,_,_=>False
def C8{P:Program}{T:eN}{x y:Operand}{t d:Nat}{K:Fr->dY->Prop}{fr:Fr}{H:dY}:m_ P T {callee:=.builtin .append,args:=#[x,y],argTypes:=#[t,t]} (some d) K fr H=CE P t (ev T fr x) (ev T fr y) d K fr H:=by
 unfold m_ CE;simp only;cases oi P t with
 |none=>rfl|some p=>grind[ev]
def WJ(P:Program)(t:TypeId)(s x:AV)(d:Nat)(K:Fr->dY->Prop)(fr:Fr)(H:dY):Prop:=
 match oi P t,x with
 |some (e,sz),.slice _ m=>
  la sz m=true/\(j6 P e).isSome=true/\0<m.length/\match s with
  |.slice .full l=>la sz l=true/\l.length+m.length<=kc/\∀cap,l.length+m.length<=cap->K (zt fr d (l.flatMap AV.cells++m.flatMap AV.cells++zq ((cap-(l.length+m.length))*sz)) (l.length+m.length) cap) H|.xO b g len cap=>g=fr.gen b/\len+m.length<=kc/\match fr.box b with
   |some cs=>cs.length=cap*sz/\(len+m.length<=cap->K {fr with env:=gK fr.env d (.xO b g (len+m.length) cap),box:=gK fr.box b (some (setCells cs (len*sz) (m.flatMap AV.cells)))} H)/\(∀a,cap<len+m.length->len+m.length<=a->K (zt fr d (cs.take (len*sz)++m.flatMap AV.cells++zq ((a-(len+m.length))*sz)) (len+m.length) a) H)|none=>False
  |_=>False
 |_,_=>False
def Qp{P:Program}{T:eN}{x y:Operand}{t d:Nat}{K:Fr->dY->Prop}{fr:Fr}{H:dY}:ES P T {callee:=.builtin .append,args:=#[x,y],argTypes:=#[t,t]} (some d) K fr H=WJ P t (ev T fr x) (ev T fr y) d K fr H:=by
 unfold ES WJ;simp only;cases oi P t with
 |none=>rfl|some p=>grind[ev]
def aaH(P:Program)(t:TypeId)(s x:AV)(d:Nat)(K:Fr->dY->Prop)(fr:Fr)(H:dY):Prop:=
 match oi P t,x with
 |some (e,sz),.slice _ m=>
  la sz m=true/\(j6 P e).isSome=true/\0<m.length/\match s with
  |.slice .full l=>la sz l=true/\l.length+m.length<=kc/\∀cap,l.length+m.length<=cap->K (fr.put (some d) (.zF H.length 0 (l.length+m.length) cap)) (H++[l.flatMap AV.cells++m.flatMap AV.cells++zq ((cap-(l.length+m.length))*sz)])|.M9=>m.length<=kc/\∀cap,m.length<=cap->K (fr.put (some d) (.zF H.length 0 m.length cap)) (H++[m.flatMap AV.cells++zq ((cap-m.length)*sz)])|.zF o off len cap=>off=0/\len+m.length<=kc/\match H[o]?with
   |some cs=>vj cs=true/\cs.length=cap*sz/\(len+m.length<=cap->K (fr.put (some d) (.zF o 0 (len+m.length) cap)) (H.set o (setCells cs (len*sz) (m.flatMap AV.cells))))/\(∀a,cap<len+m.length->len+m.length<=a->K (fr.put (some d) (.zF H.length 0 (len+m.length) a)) (H++[cs.take (len*sz)++m.flatMap AV.cells++zq ((a-(len+m.length))*sz)]))|none=>False
  |_=>False
 |_,_=>False
def DF{P:Program}{T:eN}{x y:Operand}{t d:Nat}{K:Fr->dY->Prop}{fr:Fr}{H:dY}:o0 P T {callee:=.builtin .append,args:=#[x,y],argTypes:=#[t,t]} (some d) K fr H=aaH P t (ev T fr x) (ev T fr y) d K fr H:=by
 unfold o0 aaH;simp only;cases oi P t with
 |none=>rfl|some p=>grind[ev]
def tI(P:Program)(t:TypeId)(s x:AV)(d:Nat)(K:Fr->dY->Prop)(fr:Fr)(H:dY):Prop:=(CE P t s x d K fr H\/WJ P t s x d K fr H)\/aaH P t s x d K fr H
def Mx{P:Program}{T:eN}{x y:Operand}{t d:Nat}{K:Fr->dY->Prop}{fr:Fr}{H:dY}:EI P T {callee:=.builtin .append,args:=#[x,y],argTypes:=#[t,t]} (some d) K fr H=False:=by
 refine propext ⟨λh=>?_,False.elim⟩;unfold EI at h;simp only at h
 split at h
 ·rename_i a b _ _;obtain⟨_,_,hu,_⟩:=m6 a
  grind
 ·exact h
def hS(qh:Nat->Option Nat)(fi:Nat->Nat)(D:List Nat)(tag:Tag)(n:Nat):Prop:=
 tag=.full\/∃k g,k∈D/\tag=.loc k g/\g=fi k/\qh k=some n
def hS.full{qh:Nat->Option Nat}{fi:Nat->Nat}{D:List Nat}{n:Nat}:hS qh fi D .full n:=.inl rfl
theorem hS.new{qh:Nat->Option Nat}{fi:Nat->Nat}{D:List Nat}{n d:Nat}(h:d∈D):hS (gK qh d (some n)) (gK fi d (fi d+1)) D (.loc d (fi d+1)) n:=
 .inr ⟨d,_,h,rfl,by simp[gK],by simp[gK]⟩
theorem hS.mono{qh:Nat->Option Nat}{fi:Nat->Nat}{D D':List Nat}{tag:Tag}{n:Nat}(h:hS qh fi D tag n)(a:∀k,k∈D->k∈D'):hS qh fi D' tag n:=by
 rcases h with h|⟨k,g,b,c⟩
 ·exact .inl h
 ·exact .inr ⟨k,g,a k b,c⟩
def hS.other{qh:Nat->Option Nat}{fi:Nat->Nat}{D D':List Nat}{tag a:Tag}{n n' d:Nat}{x:Option Nat}{y:Nat}(h:hS qh fi D tag n)(j:hS qh fi D' a n')
  (l:∀k,k∈D->k∉D') (o:d∉D):hS (gK (vH a qh) d x) (gK fi d y) D tag n:=by
 rcases h with h|⟨k,g,b,q,r,i⟩
 ·exact .inl h
 ·refine .inr ⟨k,g,b,q,?_,?_⟩
  ·grind[gK]
  ·have c:k≠d:=by rintro rfl;exact o b
   simp only[gK,c];rcases j with rfl|⟨k',s,f,rfl,_,_⟩
   ·exact i
   ·have:k≠k':=by rintro rfl;exact l k b f
    simp[vH,gK,this,i]
def hS.can{fr:Fr}{D:List Nat}{tag:Tag}{l:List AV}{n:Nat}(h:hS fr.qh fr.fi D tag n)(hn:n=l.length):o5 fr tag l=true:=by
 rcases h with rfl|⟨k,g,_,rfl,a,b⟩
 all_goals grind[o5]
def CE.own{P:Program}{t e sz d:Nat}{s x:AV}{K:Fr->dY->Prop}{fr:Fr}{H:dY}{α:Type}{f:α->AV}(l m:List α){D:List Nat}{tag b:Tag}
  (h:hS fr.qh fr.fi D tag l.length) (i:oi P t=some (e,sz)) (j:∀x,(f x).cells.length=sz) (hlen:fI l m=true) (hs:s=.slice tag (l.map f)) (k:x=.slice b (m.map f))
  (o:K {fr with env:=gK fr.env d (.slice (.loc d (fr.fi d+1)) ((fR l m).map f)),qh:=gK (vH tag fr.qh) d (some (fR l m).length),fi:=gK fr.fi d (fr.fi d+1)} H):CE P t s x d K fr H:=by
 subst hs;subst k;have n:=NM hlen
 have c:∀l:List α,la sz (l.map f)=true:=λl=>by cases l with|nil=>rfl|cons a l=>simp[la,j]
 unfold CE;rw[i];refine⟨c l,c m,by simpa[kc,Al] using n,?_⟩;rw[dR (h.can aa2)]
 grind[fR,grown]
def tI.own{P:Program}{t e sz d:Nat}{s x:AV}{K:Fr->dY->Prop}{fr:Fr}{H:dY}{α:Type}{f:α->AV}(l m:List α){D:List Nat}{tag a:Tag}
  (h:hS fr.qh fr.fi D tag l.length) (b:oi P t=some (e,sz)) (c:∀x,(f x).cells.length=sz) (hlen:fI l m=true) (hs:s=.slice tag (l.map f)) (i:x=.slice a (m.map f))
  (j:K {fr with env:=gK fr.env d (.slice (.loc d (fr.fi d+1)) ((fR l m).map f)),qh:=gK (vH tag fr.qh) d (some (fR l m).length),fi:=gK fr.fi d (fr.fi d+1)} H):tI P t s x d K fr H:=
 .inl (.inl (CE.own l m h b c hlen hs i j))
def lC(P:Program)(T:eN)(E:List Nat)(ops:Array Oper)(a:AV)(as:List AV)(d:Option Nat)(rest:List Oper)(K:Fr->dY->Prop)(fr:Fr)(H:dY):Prop:=
 oZ P T a as H λr H'=>iK P T E ops rest K (fr.put d r) H'
theorem Z2{P:Program}{T:eN}{q:Qt}{soft:Bool}{a:AV}{as:List AV}{d:Option Nat}{K:Fr->dY->Prop}{fr:Fr}{H H':dY}{r:AV}(h:uE P T a as H r H')(b:soft=true->QK q H H')(c:K (fr.put d r) H'):aej P T q soft a as d K fr H:=
 ⟨_,h,⟨r,H',rfl,rfl⟩,λj k ⟨f,i⟩=>by subst f;subst i;exact⟨b,c⟩⟩
section
variable{P:Program} {T:eN} {E:List Nat} {ops:Array Oper} {q:Qt} {rest:List Oper} {K:Fr->dY->Prop} {fr:Fr} {H H':dY} {d:Option Nat} {ty:TypeId} {pos:String} {after:Array Edge}
def lC.fn{g:FuncId}{as:List AV}{r:AV}(h:eO P T g as H r H')(a:iK P T E ops rest K (fr.put d r) H'):lC P T E ops (.func (.func g) [] []) as d rest K fr H:=by
 unfold lC oZ;simp only[Ac];exact h.post a
def lC.G3{g:FuncId}{b c as a:List AV}{r:AV}(f:b++as++c=a)(h:eO P T g a H r H')(i:iK P T E ops rest K (fr.put d r) H'):lC P T E ops (.func (.func g) b c) as d rest K fr H:=by
 subst f;exact h.post i
@[simp] theorem agZ:iK P T E ops [] K fr H=K fr H:=rfl
@[simp] theorem afX{x:Operand}:iK P T E ops ({dst:=d,op:=.move x,type:=ty,pos:=pos,after:=after,guard:=none}::rest) K fr H=iK P T E ops rest K (fr.put d (ev T fr x)) H:=rfl
@[simp] theorem abt{x:Operand}:iK P T E ops ({dst:=d,op:=.assign x,type:=ty,pos:=pos,after:=after,guard:=none}::rest) K fr H=iK P T E ops rest K (fr.put d (ev T fr x)) H:=rfl
@[simp] theorem adh{t:TypeId}:iK P T E ops ({dst:=d,op:=.alloc t,type:=ty,pos:=pos,after:=after,guard:=none}::rest) K fr H=match j6 P t with|some z=>kW E d z (iK P T E ops rest K) fr H|none=>False:=rfl
@[simp] theorem ag3{t:TypeId}{x:Operand}:iK P T E ops ({dst:=d,op:=.box t x,type:=ty,pos:=pos,after:=after,guard:=none}::rest) K fr H=(fw (ev T fr x)=true/\kW E d (ev T fr x).cells (iK P T E ops rest K) fr H):=rfl
@[simp] theorem af_{t:TypeId}{x:Operand}:iK P T E ops ({dst:=d,op:=.load t x,type:=ty,pos:=pos,after:=after,guard:=none}::rest) K fr H=match vq P fr H t (ev T fr x)with|some v=>iK P T E ops rest K (fr.put d v) H|none=>False:=rfl
@[simp] theorem adF{t:TypeId}{x y:Operand}:iK P T E ops ({dst:=none,op:=.store t x y,type:=ty,pos:=pos,after:=after,guard:=none}::rest) K fr H=lP P t (ev T fr x) (ev T fr y) (iK P T E ops rest K) fr H:=by simp[iK,E',qR]
@[simp] theorem UT{t n:Nat}{a:Array (Nat×Operand)}:iK P T E ops ({dst:=d,op:=.buildSlice t n a,type:=ty,pos:=pos,after:=after,guard:=none}::rest) K fr H=match m4 P t n (a.toList.map λp=>(p.1,ev T fr p.2))with|some v=>IY E d v (iK P T E ops rest K) fr H|none=>False:=rfl
@[simp] theorem afR{E:List Nat}{d:Option Nat}{v:AV}{K:Fr->dY->Prop}{fr:Fr}{H:dY}:IY E d v K fr H=if d.any E.contains then(match v with|.slice _ l=>K (fr.put d (.zF H.length 0 l.length l.length)) (H++[l.flatMap AV.cells])|_=>False)else K (fr.put d v) H:=rfl
@[simp] theorem abP{x y:Operand}{t d:Nat}:iK P T E ops ({dst:=some d,op:=.call {callee:=.builtin .append,args:=#[x,y],argTypes:=#[t,t]},type:=ty,pos:=pos,after:=after,guard:=none}::rest) K fr H=tI P t (ev T fr x) (ev T fr y) d (iK P T E ops rest K) fr H:=by
 simp only[iK,E',qR];unfold tI;rw[<-C8 (T:=T),<-Qp (T:=T),<-DF (T:=T),Mx,false_or]
@[simp] theorem afC{f:Operand}{as:Array Operand}{ts:Array TypeId}:iK P T E ops ({dst:=d,op:=.call {callee:=.value f,args:=as,argTypes:=ts},type:=ty,pos:=pos,after:=after,guard:=none}::rest) K fr H=lC P T E ops (ev T fr f) (as.toList.map λx=>(ev T fr x).norm) d rest K fr H:=rfl
@[simp] theorem ahz{as:Array Operand}{ts:Array TypeId}:iK P T E ops ({dst:=d,op:=.call {callee:=.builtin .len,args:=as,argTypes:=ts},type:=ty,pos:=pos,after:=after,guard:=none}::rest) K fr H=match ym P T fr {callee:=.builtin .len,args:=as,argTypes:=ts}with|some v=>iK P T E ops rest K (fr.put d v) H|none=>False:=rfl
@[simp] theorem af'{c a b:Operand}:iK P T E ops ({dst:=d,op:=.pick c a b,type:=ty,pos:=pos,after:=after,guard:=none}::rest) K fr H=match Ab P T fr {dst:=d,op:=.pick c a b,type:=ty,pos:=pos,after:=after,guard:=none}with|some v=>iK P T E ops rest K (fr.put d v) H|none=>False:=rfl
@[simp] theorem adb{t:TypeId}{a:Array (Nat×Operand)}:iK P T E ops ({dst:=d,op:=.build t a,type:=ty,pos:=pos,after:=after,guard:=none}::rest) K fr H=match Fg P t (a.toList.map λp=>(p.1,ev T fr p.2))with|some v=>iK P T E ops rest K (fr.put d v) H|none=>False:=rfl
@[simp] theorem aeN{o:BinOp}{t u:TypeId}{x y:Operand}:iK P T E ops ({dst:=d,op:=.binOp o t x y u,type:=ty,pos:=pos,after:=after,guard:=none}::rest) K fr H=match Rq P o t y (ev T fr x) (ev T fr y)with|some v=>iK P T E ops rest K (fr.put d v) H|none=>False:=rfl
@[simp] theorem aga{o:UnOp}{t:TypeId}{x:Operand}:iK P T E ops ({dst:=d,op:=.unOp o t x,type:=ty,pos:=pos,after:=after,guard:=none}::rest) K fr H=match unA o (ev T fr x)with|some v=>iK P T E ops rest K (fr.put d v) H|none=>False:=rfl
@[simp] theorem Yp{fn:Fn}{f c:Array Operand}:iK P T E ops ({dst:=d,op:=.makeFunc fn f c,type:=ty,pos:=pos,after:=after,guard:=none}::rest) K fr H=iK P T E ops rest K (fr.put d (.func fn (f.toList.map λx=>(ev T fr x).norm) (c.toList.map λx=>(ev T fr x).norm))) H:=rfl
@[simp] theorem WH{t i:Nat}{x:Operand}:iK P T E ops ({dst:=d,op:=.fieldAddr t x i,type:=ty,pos:=pos,after:=after,guard:=none}::rest) K fr H=match tK P t (ev T fr x) i with|some v=>iK P T E ops rest K (fr.put d v) H|none=>False:=rfl
@[simp] theorem W3{t:TypeId}{x i:Operand}:iK P T E ops ({dst:=d,op:=.indexAddr t x i,type:=ty,pos:=pos,after:=after,guard:=none}::rest) K fr H=match gH P t (ev T fr x) (ev T fr i)with|some v=>iK P T E ops rest K (fr.put d v) H|none=>False:=rfl
@[simp] theorem acP{t:TypeId}{x:Operand}{lo hi a:Option Operand}:iK P T E ops ({dst:=d,op:=.slice t x lo hi a,type:=ty,pos:=pos,after:=after,guard:=none}::rest) K fr H=match oS P t (ev T fr x) (lo.map (ev T fr)) (hi.map (ev T fr)) (a.map (ev T fr))with|some v=>iK P T E ops rest K (fr.put d v) H|none=>False:=rfl
@[simp] theorem Y7{i:Nat}{x:Operand}:iK P T E ops ({dst:=d,op:=.extract x i,type:=ty,pos:=pos,after:=after,guard:=none}::rest) K fr H=match Ab P T fr {dst:=d,op:=.extract x i,type:=ty,pos:=pos,after:=after,guard:=none}with|some v=>iK P T E ops rest K (fr.put d v) H|none=>False:=rfl
@[simp] theorem YU{x:Operand}:iK P T E ops ({dst:=d,op:=.nilCheck x,type:=ty,pos:=pos,after:=after,guard:=none}::rest) K fr H=match Ab P T fr {dst:=d,op:=.nilCheck x,type:=ty,pos:=pos,after:=after,guard:=none}with|some v=>iK P T E ops rest K (fr.put d v) H|none=>False:=rfl
@[simp] theorem aa6{t:TypeId}:iK P T E ops ({dst:=d,op:=.makeMap t none,type:=ty,pos:=pos,after:=after,guard:=none}::rest) K fr H=Ib d (iK P T E ops rest K) fr H:=rfl
@[simp] theorem We{t:TypeId}{x i y:Operand}:iK P T E ops ({dst:=none,op:=.mapUpdate t x i y,type:=ty,pos:=pos,after:=after,guard:=none}::rest) K fr H=sh P t (ev T fr x) (ev T fr i) (ev T fr y) (iK P T E ops rest K) fr H:=by simp[iK,E',qR]
@[simp] theorem aco{t:TypeId}{x i y:Operand}:iK P T E ops ({dst:=none,op:=.insert t x i y,type:=ty,pos:=pos,after:=after,guard:=none}::rest) K fr H=sh P t (ev T fr x) (ev T fr i) (ev T fr y) (iK P T E ops rest K) fr H:=by simp[iK,E',qR]
@[simp] theorem aeg{t:TypeId}{x:Operand}:iK P T E ops ({dst:=d,op:=.range t x,type:=ty,pos:=pos,after:=after,guard:=none}::rest) K fr H=IF P t (ev T fr x) d (iK P T E ops rest K) fr H:=rfl
@[simp] theorem ac6{x:Operand}:iK P T E ops ({dst:=d,op:=.entry x,type:=ty,pos:=pos,after:=after,guard:=none}::rest) K fr H=match FK (ev T fr x) H with|some v=>iK P T E ops rest K (fr.put d v) H|none=>False:=rfl
@[simp] theorem TQ{x:Operand}:iK P T E ops ({dst:=d,op:=.next x false,type:=ty,pos:=pos,after:=after,guard:=none}::rest) K fr H=LJ (ev T fr x) d (iK P T E ops rest K) fr H:=rfl
@[simp] theorem ad2{op:Op}{j:Nat}{want:Bool}:iK P T E ops ({dst:=d,op:=op,type:=ty,pos:=pos,after:=after,guard:=some (j,want)}::rest) K fr H=match(ops[j]?).bind (·.dst)with
 |some g=>match fr.env g with
  |.sc (.bool b)=>if b=want then iK P T E ops ({dst:=d,op:=op,type:=ty,pos:=pos,after:=after,guard:=none}::rest) K fr H else iK P T E ops rest K (fr.put d (.tuple [])) H|.tuple _=>iK P T E ops rest K (fr.put d (.tuple [])) H|_=>False
 |none=>False:=rfl
end
@[simp] theorem Fr.ah1(fr:Fr)(d:Nat)(x:AV):fr.put (some d) x={fr with env:=gK fr.env d x}:=rfl
@[simp] theorem aih{α:Type}(f:Nat->α)(i:Nat)(x:α)(j:Nat):gK f i x j=if j=i then x else f j:=rfl
@[simp] theorem ahB(v:Value):AV.cells (.sc v:AV)=[(.sc v:AV)]:=rfl
@[simp] theorem ab_(v:Value):fw (.sc v:AV)=true:=rfl
@[simp] theorem agy(v:Value):AV.kg (.sc v:AV)=(.sc v:AV):=rfl
@[simp] theorem aiq(v:Value):AV.norm (.sc v:AV)=(.sc v:AV):=rfl
@[simp] theorem aiJ(P:Program)(ty:TypeId)(v:Value):ux P ty (.sc v:AV)=match fY P ty with|some (false,_)=>true|_=>false:=by
 unfold ux;cases fY P ty with
 |none=>rfl|some p=>grind
@[simp] theorem afV(b g o c:Nat):AV.cells (.xO b g o c:AV)=[(.xO b g o c:AV)]:=rfl
@[simp] theorem aaS(b g o c:Nat):fw (.xO b g o c:AV)=true:=rfl
@[simp] theorem af9(o f:Nat):AV.norm (.fb o f:AV)=(.fb o f:AV):=rfl
@[simp] theorem afv(o:Nat):AV.cells (.nx o:AV)=[(.nx o:AV)]:=rfl
@[simp] theorem YJ(o:Nat):fw (.nx o:AV)=true:=rfl
@[simp] theorem adP(o:Nat):AV.kg (.nx o:AV)=(.nx o:AV):=rfl
@[simp] theorem afS(o:Nat):AV.norm (.nx o:AV)=(.nx o:AV):=rfl
@[simp] theorem afD:vj []=false:=rfl
@[simp] theorem ac_(c:AV)(cs:List AV):vj (c::cs)=c.gL:=rfl
@[simp] theorem ahZ(v:Value):AV.gL (.sc v)=true:=rfl
@[simp] theorem abO(t:Tag)(l:List AV):AV.gL (.slice t l)=true:=rfl
@[simp] theorem ae'(f:Fn)(a c:List AV):AV.gL (.func f a c)=true:=rfl
@[simp] theorem acp(t:Tag)(l:List AV):AV.cells (.slice t l:AV)=[(.slice t l:AV)]:=rfl
@[simp] theorem Xe(t:Tag)(l:List AV):fw (.slice t l:AV)=true:=rfl
@[simp] theorem abL(t:Tag)(l:List AV):AV.kg (.slice t l:AV)=.slice .gI l:=rfl
@[simp] theorem aeJ(t:Tag)(l:List AV):AV.norm (.slice t l:AV)=.slice .gI l:=rfl
@[simp] theorem aev(P:Program)(ty:TypeId)(t:Tag)(l:List AV):ux P ty (.slice t l:AV)=match fY P ty with|some (false,_)=>true|_=>false:=by
 unfold ux;cases fY P ty with
 |none=>rfl|some p=>grind
@[simp] theorem afx(cs:List AV):AV.cells (.agg cs:AV)=cs:=rfl
@[simp] theorem abk(cs:List AV):fw (.agg cs:AV)=true:=rfl
@[simp] theorem ago(cs:List AV):AV.norm (.agg cs:AV)=.agg (cs.map AV.kg):=rfl
@[simp] theorem uD(P:Program)(ty:TypeId)(cs:List AV):ux P ty (.agg cs)=match fY P ty with|some (true,n)=>cs.length==n|_=>false:=by
 unfold ux;cases fY P ty with
 |none=>rfl|some p=>grind
@[simp] theorem adS(f:Fn)(a c:List AV):AV.cells (.func f a c:AV)=[(.func f a c:AV)]:=rfl
@[simp] theorem Y0(f:Fn)(a c:List AV):fw (.func f a c:AV)=true:=rfl
@[simp] theorem aep(f:Fn)(a c:List AV):AV.kg (.func f a c:AV)=(.func f a c:AV):=rfl
@[simp] theorem af3(f:Fn)(a c:List AV):AV.norm (.func f a c:AV)=(.func f a c:AV):=rfl
@[simp] theorem ab5(sz:Nat)(x:AV)(l:List AV):la sz (x::l)=(x.cells.length==sz):=rfl
def gk(H:dY)(o:Nat)(c:List AV):dY:=H.set o c
@[simp] theorem afQ{H:dY}{o:Nat}{x y:List AV}:gk (gk H o x) o y=gk H o y:=by simp[gk]
section
variable{P:Program} {t:TypeId} {k k':IntKind} {a b:Int} {u v:ByteArray} {p q:Bool}
@[simp] theorem agA{i:Nat}{u v:AV}{op:BinOp}:Rq P op t (.tmp i) u v=qn P op t u v:=rfl
@[simp] theorem ah2{i:Int}{u v:AV}{op:BinOp}:Rq P op t (.const (.int k i)) u v=qn P op t u v:=rfl
@[simp] theorem agm:qn P .add t (.sc (.int k a)) (.sc (.int k b))=some (.sc (.int k (eS k a b))):=by simp[qn,uB,qt,eS]
@[simp] theorem agG:qn P .sub t (.sc (.int k a)) (.sc (.int k b))=some (.sc (.int k (fA k a b))):=by simp[qn,uB,qt,fA]
@[simp] theorem agq:qn P .mul t (.sc (.int k a)) (.sc (.int k b))=some (.sc (.int k (T1 k a b))):=by simp[qn,uB,qt,T1]
@[simp] theorem aho:qn P .rem t (.sc (.int k a)) (.sc (.int k b))=if KM b then some (.sc (.int k (VI k a b)))else none:=by grind[qn,uB,qt,VI,KM]
@[simp] theorem agk:qn P .and t (.sc (.int k a)) (.sc (.int k b))=some (.sc (.int k (B3 k a b))):=by simp[qn,uB,qt,B3]
@[simp] theorem aiD:qn P .or t (.sc (.int k a)) (.sc (.int k b))=some (.sc (.int k (SV k a b))):=by simp[qn,uB,qt,SV]
@[simp] theorem ahE:qn P .shl t (.sc (.int k a)) (.sc (.int k' b))=if T0 b then some (.sc (.int k (aes k a b)))else none:=by grind[qn,uB,aes,T0]
@[simp] theorem ahk:qn P .shr t (.sc (.int k a)) (.sc (.int k' b))=if T0 b then some (.sc (.int k (acQ k a b)))else none:=by grind[qn,uB,acQ,T0]
@[simp] theorem agj:qn P .eql t (.sc (.int k a)) (.sc (.int k b))=some (.sc (.bool (eo a b))):=by simp[qn,uB,qt,eo]
@[simp] theorem ah8:qn P .neq t (.sc (.int k a)) (.sc (.int k b))=some (.sc (.bool (eP a b))):=by simp[qn,uB,qt,eP]
@[simp] theorem ahD:qn P .lss t (.sc (.int k a)) (.sc (.int k b))=some (.sc (.bool (o7 a b))):=by simp[qn,uB,qt,o7]
@[simp] theorem ag2:qn P .leq t (.sc (.int k a)) (.sc (.int k b))=some (.sc (.bool (Yr a b))):=by simp[qn,uB,qt,Yr]
@[simp] theorem agh:qn P .gtr t (.sc (.int k a)) (.sc (.int k b))=some (.sc (.bool (oQ a b))):=by simp[qn,uB,qt,oQ]
@[simp] theorem agC:qn P .geq t (.sc (.int k a)) (.sc (.int k b))=some (.sc (.bool (pd a b))):=by simp[qn,uB,qt,pd]
@[simp] theorem aid:unA .not (.sc (.bool p))=some (.sc (.bool (lJ p))):=by simp[unA,lJ]
@[simp] theorem af8:Sy (.sc (.int k a)) (.sc (.int k' b))=some (.sc (.int k (imax a b))):=rfl
@[simp] theorem ag4{α:Type}{f:α->AV}{tag:Tag}{l:List α}:Hu P t (.slice tag (l.map f))=match P.underlying t with|some (.slice _)=>some (.sc (.int .i64 (eA l)))|some (.array n _)=>some (.sc (.int .i64 n))|_=>none:=by
 unfold Hu eA;cases P.underlying t with
 |none=>rfl|some y=>grind
@[simp] theorem ahC{tag:Tag}:Hu P t (.slice tag [])=match P.underlying t with|some (.slice _)=>some (.sc (.int .i64 0))|some (.array n _)=>some (.sc (.int .i64 n))|_=>none:=by
 unfold Hu;cases P.underlying t with
 |none=>rfl|some y=>grind
@[simp] theorem af4{tag:Tag}{x:AV}{l:List AV}:Hu P t (.slice tag (x::l))=match P.underlying t with|some (.slice _)=>some (.sc (.int .i64 ((l.length+1:Nat):Int)))|some (.array n _)=>some (.sc (.int .i64 n))|_=>none:=by
 unfold Hu;cases P.underlying t with
 |none=>rfl|some y=>grind
@[simp] theorem VS{α:Type}{f:α->AV}{tag:Tag}{l:List α}:gH P t (.slice tag (l.map f)) (.sc (.int k a))=match P.underlying t with
  |some (.slice e)=>match dW l a,fY P e with
   |some x,some (_,sz)=>if(f x).cells.length=sz then some (.mj (f x))else none|_,_=>none
  |_=>none:=by
 unfold gH dW;cases P.underlying t with
 |none=>rfl|some y=>
  cases y<;>try rfl
  rename_i e;simp only[yZ]
  by_cases h:0<=a
  ·rw[dR h,dR h];cases l[a.toNat]?with
   |none=>rfl|some x=>cases fY P e<;>rfl
  ·rw[dK h,dK h]
def Ij{α:Type}{f:α->AV}{L:List α}{n e:Nat}(hu:P.underlying t=some (.array n e))(b:fY P e=some (false,1))(hn:L.length=n):gH P t (.mj (.agg (L.map f))) (.sc (.int k a))=(dW L a).map λx=>.mj (f x):=by
 unfold gH dW
 grind[mq,AV.cells]
end
attribute [simp] ev ofValue qs y0 kW Ib vq mq tK Di Fg Gt m4 setCells DY LM ym Ab
 qW Gh rootOf isG isL PD KB wk IS
@[simp] theorem abF{P:Program}{t:TypeId}{b g off:Nat}{v:AV}{K:Fr->dY->Prop}{fr:Fr}{H:dY}:lP P t (.h9 b g off) v K fr H=match fY P t with
  |none=>False|some (_,n)=>match fr.box b with
   |some cs=>g=fr.gen b/\v.cells.length=n/\off+n<=cs.length/\fw v=true/\K {fr with box:=gK fr.box b (some (setCells cs off v.cells))} H|none=>False:=by
 unfold lP;cases fY P t with
 |none=>rfl|some p=>rfl
@[simp] theorem abT{P:Program}{t:TypeId}{o off:Nat}{v:AV}{K:Fr->dY->Prop}{fr:Fr}{H:dY}:lP P t (.fb o off) v K fr H=match fY P t with
  |none=>False|some (_,n)=>match H[o]?with
   |some cs=>vj cs=true/\v.cells.length=n/\off+n<=cs.length/\fw v=true/\K fr (H.set o (setCells cs off v.norm.cells))|none=>False:=by
 unfold lP;cases fY P t with
 |none=>rfl|some p=>rfl
def hZ.Su{P:Program}{T:eN}{n:Nat}{Q:Exit->Fr->dY->Prop}{fr:Fr}{H:dY}{c:Code}(I:Nat->Fr->dY->Prop)(m:Nat)(b:I m fr H)
  (d:∀m fr H,I m fr H->∀K:Fr->dY->Prop,(∀fr' H' a,a<m->I a fr' H'->K fr' H')->hZ P T n c (IS K Q) fr H):hZ P T n (.loop c) Q fr H:=by
 refine hZ.loop ?_
 have key:∀k fr H,I k fr H->ALp P T n c Q fr H:=by
  intro k
  induction k using Nat.strongRecOn with
  |_ k ih=>grind[ALp.round,hZ.mono]
 grind
def Ma(v:AV)(A B:Prop):Prop:=match v with|.sc (.bool t)=>if t then A else B|_=>False
@[simp] theorem ab4(t:Bool)(A B:Prop):Ma (.sc (.bool t)) A B=if t then A else B:=rfl
section
variable{P:Program} {T:eN} {n:Nat} {Q:Exit->Fr->dY->Prop} {fr:Fr} {H:dY}
def hZ.Cw{c:Operand}{x y:Code}
  (h:∀A B:Fr->dY->Prop,(∀fr H,hZ P T n x Q fr H->A fr H)->(∀fr H,hZ P T n y Q fr H->B fr H)->Ma (ev T fr c) (A fr H) (B fr H)) (b:jg c=true:=by rfl):hZ P T n (.cond c x y) Q fr H:=by
 have a:=h (hZ P T n x Q) (hZ P T n y Q) (λ_ _ h=>h) (λ_ _ h=>h);generalize d:ev T fr c=v at a;cases v with
 |sc w=>
  cases w with
  |bool t=>
   refine hZ.cond d b (λf=>?_) (λf=>?_)
   all_goals simp_all
  |_=>exact a.elim
 |_=>exact a.elim
def hZ.sr{id:Nat}{ops:Array Oper}{y:Code}(E:List Nat)(h:∀K:Fr->dY->Prop,(∀fr H,hZ P T n y Q fr H->K fr H)->iK P T E ops ops.toList K fr H)(a:A4 n ops=true:=by decide+kernel):hZ P T n (.seq (.region id ops false) y) Q fr H:=
 hZ.Da λK b=>hZ.region E a (h K b)
def hZ.agd{x y:Code}(R:Fr->dY->Prop)(b:∀K:Fr->dY->Prop,(∀fr H,R fr H->K fr H)->hZ P T n x (IS K Q) fr H)(c:∀fr H,R fr H->hZ P T n y Q fr H):hZ P T n (.seq x y) Q fr H:=
 hZ.seq ((b R λ_ _ h=>h).mono λe fr' H' a=>by cases e<;>first|exact c _ _ a|exact a)
end
@[simp] theorem range_one:List.range 1=[0]:=rfl
@[simp] theorem ahi:List.range 2=[0,1]:=rfl
@[simp] theorem agT:List.range 3=[0,1,2]:=rfl
section
variable{P:Program} {t e sz:Nat} {bl:Bool} {tag:Tag} {α:Type} {k k' k2:IntKind} {a b:Int} {u:ByteArray}
def abq(h:0<=a):M0 (some (.sc (.int k a)))=some (some a.toNat):=by simp[M0,h]
theorem aap(h:¬0<=a):M0 (some (.sc (.int k a)))=none:=by simp[M0,h]
theorem Mp{x:AV}{lo hi:Option AV}(h:M0 lo=none):oS P t x lo hi none=none:=by unfold oS;rw[h]
def O1{lo hi:Option AV}{a hi':Option Nat}(b:M0 lo=some a)(c:M0 hi=some hi')(f:α->AV)(l:List α)(hu:P.underlying t=some (.slice e))(d:fY P e=some (bl,sz))(i:∀x,(f x).cells.length=sz):oS P t (.slice tag (l.map f)) lo hi none=if hi'.getD l.length<=l.length/\a.getD 0<=hi'.getD l.length then some (.slice .gI (((l.take (hi'.getD l.length)).drop (a.getD 0)).map f))else none:=by
 have h:la sz (l.map f)=true:=by
  cases l with
  |nil=>rfl|cons x l=>simp_all
 unfold oS;rw[b,c];simp only[M0,hu,d,h];simp
def PB(f:α->AV)(l:List α)(hu:P.underlying t=some (.slice e))(b:fY P e=some (bl,sz))(c:∀x,(f x).cells.length=sz):oS P t (.slice tag (l.map f)) (some (.sc (.int k a))) none none=(pF l a (eA l)).map λr=>.slice .gI (r.map f):=by
 unfold pF eA
 by_cases d:0<=a
 ·rw[O1 (abq d) (hi:=none) (hi':=none) rfl f l hu b c]
  grind
 ·grind[Mp,aap]
end
def wQ{P:Program}{t e sz:Nat}{b:Bool}{tag:Tag}{α:Type}(f:α->AV)(l:List α)(hu:P.underlying t=some (.slice e))(a:fY P e=some (b,sz))(c:∀x,(f x).cells.length=sz):oS P t (.slice tag (l.map f)) none (some (.sc (.int .i64 (Go.fD.eA l)))) (some (.sc (.int .i64 (Go.fD.eA l))))=some (.slice .full (l.map f)):=by
 have h:la sz (l.map f)=true:=by
  cases l with
  |nil=>rfl|cons x l=>simp_all
 simp[oS,M0,hu,a,h,Go.fD.eA,<-List.map_take]
def tL{α:Type}(f:α->AV)(l:List (Int×α)):AV:=.uH (l.map λp=>Value.int .i64 p.1) (l.map λp=>f p.2)
@[simp] theorem agX{α:Type}(f:α->AV):tL f []=.uH [] []:=rfl
def V8{α:Type}(l:List (Int×α))(k:Int):mapIdx (l.map λp=>Value.int .i64 p.1) (.int .i64 k)=l.findIdx? (λp=>p.1==k):=by
 unfold mapIdx;rw[List.findIdx?_map];rfl
def SS{α:Type}(l:List (Int×α)):(l.map λp=>Value.int .i64 p.1).all (Jk (.int .i64))=true:=by
 rw[k_];intro x a;obtain⟨p,_,rfl⟩:=qp.1 a;rfl
def NT{α:Type}(f:α->AV):∀(l:List (Int×α)) (k:Int) (y:α),F5 (l.map λp=>Value.int .i64 p.1) (l.map λp=>f p.2) (.int .i64 k) (f y)=tL f (wG l k y)
 |[],k,y=>rfl|p::l,k,y=>by
  have ih:=NT f l k y;unfold F5 at ih|-;rw[V8] at ih|-;rw[afs];unfold wG
  by_cases h:p.1=k
  ·grind[tL]
  ·rw[dK (by simpa using h),dK h];cases hi:l.findIdx? (λp=>p.1==k)with
   |none=>
    rw[hi] at ih;simp only[tL,AV.uH.injEq] at ih;simp[tL,<-ih.1,<-ih.2]
   |some j=>
    rw[hi] at ih;simp only[tL,AV.uH.injEq] at ih;simp[tL,<-ih.1,<-ih.2]
section
variable{P:Program} {t kt e:TypeId} {o:Nat} {k:Int} {α:Type} {f:α->AV} {d:Option Nat} {K:Fr->dY->Prop} {fr:Fr} {H:dY}
def uN.i64(l:List (Int×α))(y:α){v:AV}(hu:P.underlying t=some (.map kt e))(a:P.underlying kt=some (.int .i64))(b:H[o]?=some [tL f l])(c:v.norm=f y)(d:K fr (gk H o [tL f (wG l k y)])):sh P t (.nx o) (.sc (.int .i64 k)) v K fr H:=by
 unfold sh;simp only[hu,a,b];refine⟨rfl,SS l,?_⟩;rw[c,NT];exact d
end
end Go.kY
