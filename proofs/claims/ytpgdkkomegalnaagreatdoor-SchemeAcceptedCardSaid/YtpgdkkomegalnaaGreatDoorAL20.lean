/- Part of the proof of SchemeAccepted: layer. -/
import Derived.Test.YtpgdkkomegalnaaGreatDoorAL19
set_option linter.all false
namespace Go.kY
open Go Go.fH
section
variable{P:Program} {T:eH} {n B0:Nat} {ρ:Maps} {F:kD} {R:Nat->ot} {fr:Fr} {H:dT} {a:Act} {w:World}
def WR.Yu(h:WR T n B0 ρ F R fr H a w){d:Nat}{cs:List AV}(B:fr.box d=some cs):WR T n B0 ρ F (gz R (ρ.L d (fr.gen d)) .free) {fr with box:=gz fr.box d none} H a w:=by
 obtain⟨J,C,K,vs,ty,M,N⟩:=h.box d cs B
 have i:∀l,R l≠ .box d->gz R (ρ.L d (fr.gen d)) .free l=R l:=by
  intro l r;unfold gz;rw[dI];rintro rfl;exact r C
 refine⟨h.g,h.size,h.defers,h.env,h.hn,h.lg,h.ag,?_,?_,?_,?_,?_,h.qn⟩
 ·intro q s f;simp only[gz] at f
  by_cases he:q=d
  ·rw[dO he] at f;cases f
  ·rw[dI he] at f;obtain⟨u,t,x⟩:=h.box q s f
   grind
 ·intro k m D b c sz G;obtain⟨u,t,x⟩:=h.tok k m D b c sz G;exact⟨u,by rw[i _ (by rw[t];simp)];exact t,x⟩
 ·intro b j v y q;rw[i b (h.qj b j v y d)];exact h.qj b j v y q
 ·intro o A;rw[i _ (by rw[h.n9 o A];simp)];exact h.n9 o A
 ·intro b I;have:R b=.free:=h.lB b I;rw[i b (by rw[this];simp)];exact this
def WR.share(h:WR T n B0 ρ F R fr H a w){d:Nat}{cs:List AV}(c:fr.box d=some cs)(he:fr.env d=.hU d (fr.gen d) 0):∃ρ' i,(∀o,o<H.length->ρ'.G o=ρ.G o)/\ρ'.G H.length=ρ.L d (fr.gen d)/\B0<=ρ.L d (fr.gen d)/\WR T n B0 ρ' F i {fr with env:=gz fr.env d (.eT H.length 0),box:=gz fr.box d none} (H++[cs.map AV.j9]) a w:=by
 obtain⟨l,q,r,vs,ty,s,u⟩:=h.box d cs c;have x:=(vb (by have:=h.env d;rw[he] at this;exact this)).1
 have hF:∀j,F (ρ.L d (fr.gen d)) j=none:=by
  intro j;cases y:F (ρ.L d (fr.gen d)) j with
  |none=>rfl|some v=>exact absurd q (h.qj _ j v y d)
 obtain⟨ρ',i,hG,f,k,hw⟩:=(h.Yu c).Lh (b:=ρ.L d (fr.gen d)) (by simp[gz]) hF s (.cells (.inl rfl) (u.vZ AV.j9 λ_ _ _ h=>h.j9) (x8 r));refine⟨ρ',i,hG,f,l,?_⟩;refine⟨hw.g,hw.size,hw.defers,?_,hw.hn,hw.lg,hw.ag,hw.box,hw.tok,hw.qj,hw.n9,hw.lB,hw.qn⟩;intro t;have A:=hw.env t;simp only[gz]
 by_cases c:t=d
 ·subst c;rw[dO rfl,x,<-f];exact .cell (.p (.eT (by rw[k];omega)))
 ·rw[dI c];exact A
def hQ.abr{c:Code}{Q:Exit->Fr->dT->Prop}{d:Nat}{cs:List AV}(f:fr.box d=some cs)(he:fr.env d=.hU d (fr.gen d) 0)(h:hQ P T n c Q {fr with env:=gz fr.env d (.eT H.length 0),box:=gz fr.box d none} (H++[cs.map AV.j9])):hQ P T n c Q fr H:=by
 intro G0 F0 n0 w0 a w hs;refine h G0 F0 n0 w0 a w ?_;obtain⟨ρ,F,R,hw,i⟩:=hs;obtain⟨ρ',j,hG,k,l,b⟩:=hw.share f he;refine⟨ρ',F,j,b,?_⟩;rw[qt];exact i.aa4 hG (by grind)
end
section
variable{X:Cx} {k:Nat} {S:List It} {fr:Fr} {H:dT} {c:Code}
def Dj(k:Nat){d:Nat}{cs:List AV}(b:fr.box d=some cs)(he:fr.env d=.hU d (fr.gen d) 0)(h:Wf X k (.c c::S) {fr with env:=gz fr.env d (.eT H.length 0),box:=gz fr.box d none} (H++[cs.map AV.j9])):Wf X 0 (.c c::S) fr H:=
 λhm a=>hQ.abr b he (lH X k _ _ _ h hm a)
end
end Go.kY
