/- Part of the proof of SchemeLists: layer. -/
import Derived.Test.YtpgdkkomegalnaaGreatDoorLL19
set_option linter.all false
namespace Go.kY
open Go Go.fD
section
variable{P:Program} {T:eN} {n B0:Nat} {ρ:Maps} {F:kM} {R:Nat->ou} {fr:Fr} {H:dY} {a:Act} {w:World}
def WR.Y2(h:WR T n B0 ρ F R fr H a w){d:Nat}{cs:List AV}(B:fr.box d=some cs):WR T n B0 ρ F (gK R (ρ.L d (fr.gen d)) .free) {fr with box:=gK fr.box d none} H a w:=by
 obtain⟨J,C,K,vs,ty,M,N⟩:=h.box d cs B
 have i:∀l,R l≠ .box d->gK R (ρ.L d (fr.gen d)) .free l=R l:=by
  intro l r;unfold gK;rw[dK];rintro rfl;exact r C
 refine⟨h.g,h.size,h.defers,h.env,h.hn,h.lg,h.ag,?_,?_,?_,?_,?_,h.qq⟩
 ·intro q s f;simp only[gK] at f
  by_cases he:q=d
  ·rw[dR he] at f;cases f
  ·rw[dK he] at f;obtain⟨u,t,x⟩:=h.box q s f
   grind
 ·intro k m D b c sz G;obtain⟨u,t,x⟩:=h.tok k m D b c sz G;exact⟨u,by rw[i _ (by rw[t];simp)];exact t,x⟩
 ·intro b j v y q;rw[i b (h.qi b j v y d)];exact h.qi b j v y q
 ·intro o A;rw[i _ (by rw[h.n_ o A];simp)];exact h.n_ o A
 ·intro b I;have:R b=.free:=h.lz b I;rw[i b (by rw[this];simp)];exact this
def WR.share(h:WR T n B0 ρ F R fr H a w){d:Nat}{cs:List AV}(c:fr.box d=some cs)(he:fr.env d=.h9 d (fr.gen d) 0):∃ρ' i,(∀o,o<H.length->ρ'.G o=ρ.G o)/\ρ'.G H.length=ρ.L d (fr.gen d)/\B0<=ρ.L d (fr.gen d)/\WR T n B0 ρ' F i {fr with env:=gK fr.env d (.fb H.length 0),box:=gK fr.box d none} (H++[cs.map AV.kg]) a w:=by
 obtain⟨l,q,r,vs,ty,s,u⟩:=h.box d cs c;have x:=(vM (by have:=h.env d;rw[he] at this;exact this)).1
 have hF:∀j,F (ρ.L d (fr.gen d)) j=none:=by
  intro j;cases y:F (ρ.L d (fr.gen d)) j with
  |none=>rfl|some v=>exact absurd q (h.qi _ j v y d)
 obtain⟨ρ',i,hG,f,k,hw⟩:=(h.Y2 c).Mg (b:=ρ.L d (fr.gen d)) (by simp[gK]) hF s (.cells (.inl rfl) (u.wM AV.kg λ_ _ _ h=>h.kg) (yh r));refine⟨ρ',i,hG,f,l,?_⟩;refine⟨hw.g,hw.size,hw.defers,?_,hw.hn,hw.lg,hw.ag,hw.box,hw.tok,hw.qi,hw.n_,hw.lz,hw.qq⟩;intro t;have A:=hw.env t;simp only[gK]
 by_cases c:t=d
 ·subst c;rw[dR rfl,x,<-f];exact .cell (.p (.fb (by rw[k];omega)))
 ·rw[dK c];exact A
def hZ.ae5{c:Code}{Q:Exit->Fr->dY->Prop}{d:Nat}{cs:List AV}(f:fr.box d=some cs)(he:fr.env d=.h9 d (fr.gen d) 0)(h:hZ P T n c Q {fr with env:=gK fr.env d (.fb H.length 0),box:=gK fr.box d none} (H++[cs.map AV.kg])):hZ P T n c Q fr H:=by
 intro G0 F0 n0 w0 a w hs;refine h G0 F0 n0 w0 a w ?_;obtain⟨ρ,F,R,hw,i⟩:=hs;obtain⟨ρ',j,hG,k,l,b⟩:=hw.share f he;refine⟨ρ',F,j,b,?_⟩;rw[ni];exact i.adY hG (by grind)
end
section
variable{X:Cx} {k:Nat} {S:List It} {fr:Fr} {H:dY} {c:Code}
def DA(k:Nat){d:Nat}{cs:List AV}(b:fr.box d=some cs)(he:fr.env d=.h9 d (fr.gen d) 0)(h:Wf X k (.c c::S) {fr with env:=gK fr.env d (.fb H.length 0),box:=gK fr.box d none} (H++[cs.map AV.kg])):Wf X 0 (.c c::S) fr H:=
 λhm a=>hZ.ae5 b he (lH X k _ _ _ h hm a)
end
end Go.kY
