/- Part of the proof of SchemeAccepted: layer. -/
import Derived.Test.YtpgdkkomegalnaaGreatDoorL19
set_option linter.all false
namespace Go.kY
open Go Go.fN
section
variable{P:Program} {T:eA} {n B0:Nat} {ρ:Maps} {F:kD} {R:Nat->ou} {fr:Fr} {H:dS} {a:Act} {w:World}
def WR.abp(h:WR T n B0 ρ F R fr H a w){d:Nat}{cs:List AV}(B:fr.box d=some cs):WR T n B0 ρ F (gA R (ρ.L d (fr.gen d)) .free) {fr with box:=gA fr.box d none} H a w:=by
 obtain⟨J,C,K,vs,ty,M,N⟩:=h.box d cs B
 have i:∀l,R l≠ .box d->gA R (ρ.L d (fr.gen d)) .free l=R l:=by
  intro l r;unfold gA;rw[dI];rintro rfl;exact r C
 refine⟨h.g,h.size,h.defers,h.env,h.hn,h.lg,h.ag,?_,?_,?_,?_,?_,h.qe⟩
 ·intro q s f;simp only[gA] at f
  by_cases he:q=d
  ·rw[dO he] at f;cases f
  ·rw[dI he] at f;obtain⟨u,t,x⟩:=h.box q s f
   grind
 ·intro k m D b c sz G;obtain⟨u,t,x⟩:=h.tok k m D b c sz G;exact⟨u,by rw[i _ (by rw[t];simp)];exact t,x⟩
 ·intro b j v y q;rw[i b (h.qc b j v y d)];exact h.qc b j v y q
 ·intro o A;rw[i _ (by rw[h.oa o A];simp)];exact h.oa o A
 ·intro b I;have:R b=.free:=h.lK b I;rw[i b (by rw[this];simp)];exact this
def WR.share(h:WR T n B0 ρ F R fr H a w){d:Nat}{cs:List AV}(c:fr.box d=some cs)(he:fr.env d=.gX d (fr.gen d) 0):∃ρ' i,(∀o,o<H.length->ρ'.G o=ρ.G o)/\ρ'.G H.length=ρ.L d (fr.gen d)/\B0<=ρ.L d (fr.gen d)/\WR T n B0 ρ' F i {fr with env:=gA fr.env d (.eK H.length 0),box:=gA fr.box d none} (H++[cs.map AV.iV]) a w:=by
 obtain⟨l,q,r,vs,ty,s,u⟩:=h.box d cs c;have x:=(uH (by have:=h.env d;rw[he] at this;exact this)).1
 have hF:∀j,F (ρ.L d (fr.gen d)) j=none:=by
  intro j;cases y:F (ρ.L d (fr.gen d)) j with
  |none=>rfl|some v=>exact absurd q (h.qc _ j v y d)
 obtain⟨ρ',i,hG,f,k,hw⟩:=(h.abp c).Mo (b:=ρ.L d (fr.gen d)) (by simp[gA]) hF s (.cells (.inl rfl) (u.vS AV.iV λ_ _ _ h=>h.iV) (xz r));refine⟨ρ',i,hG,f,l,?_⟩;refine⟨hw.g,hw.size,hw.defers,?_,hw.hn,hw.lg,hw.ag,hw.box,hw.tok,hw.qc,hw.oa,hw.lK,hw.qe⟩;intro t;have A:=hw.env t;simp only[gA]
 by_cases c:t=d
 ·subst c;rw[dO rfl,x,<-f];exact .cell (.p (.eK (by rw[k];omega)))
 ·rw[dI c];exact A
def gd.ahv{c:Code}{Q:Exit->Fr->dS->Prop}{d:Nat}{cs:List AV}(f:fr.box d=some cs)(he:fr.env d=.gX d (fr.gen d) 0)(h:gd P T n c Q {fr with env:=gA fr.env d (.eK H.length 0),box:=gA fr.box d none} (H++[cs.map AV.iV])):gd P T n c Q fr H:=by
 intro G0 F0 n0 w0 a w hs;refine h G0 F0 n0 w0 a w ?_;obtain⟨ρ,F,R,hw,i⟩:=hs;obtain⟨ρ',j,hG,k,l,b⟩:=hw.share f he;refine⟨ρ',F,j,b,?_⟩;rw[qf];exact i.ag9 hG (by grind)
end
section
variable{X:Cx} {k:Nat} {S:List It} {fr:Fr} {H:dS} {c:Code}
def CX(k:Nat){d:Nat}{cs:List AV}(b:fr.box d=some cs)(he:fr.env d=.gX d (fr.gen d) 0)(h:Wf X k (.c c::S) {fr with env:=gA fr.env d (.eK H.length 0),box:=gA fr.box d none} (H++[cs.map AV.iV])):Wf X 0 (.c c::S) fr H:=
 λhm a=>gd.ahv b he (lO X k _ _ _ h hm a)
end
end Go.kY
