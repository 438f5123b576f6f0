/- Contracts and plain laws that the last text rests on. Conditions: each theorem states its own. -/
import Derived.Test.YtdbfejfhpkakhaaGreatKeQ35
import Derived.Test.YtdbfejfhpkakhaaGreatKePbBkJ
import Derived.Test.YtdbfejfhpkakhaaGreatKeQ24
set_option maxRecDepth 100000
set_option linter.unusedVariables false
namespace Go.Proofs.YtdbfejfhpkakhaaGreat
open Go.RowKit
theorem CZ (n:Nat):okB (four n):=by
 intro x hx;simp only[four,List.mem_cons,List.not_mem_nil,or_false]at hx;rcases hx with rfl|rfl|rfl|rfl<;>omega
theorem vw {xs:List Nat} (ok:okB xs):okB (iw xs):=fun x hx=>by
 rcases List.mem_append.1 hx with h|h
 ·exact ok x h
 ·exact CZ _ x h
theorem Xc {kind:Nat} (hk:kind<256) {xs:List Nat} (ok:okB xs) (hl:xs.length<=65536):okB (aH kind xs):=vw (qE hk ok hl)
theorem JG {α:Type} {per:Nat} (hp:0<per) {l g:List α} (hg:g∈dW per l):0<g.length/\g.length<=per/\g.length<=l.length/\(∀x∈g,x∈l)/\g<:+:l:=by
 obtain ⟨i,hi,rfl⟩:=List.mem_iff_getElem.1 hg;have h2:=hi;rw[Qm,jZ hp]at h2;rw[XV hi];refine ⟨?_,?_,?_,fun x hx=>List.mem_of_mem_drop (List.mem_of_mem_take hx),(List.take_prefix _ _).isInfix.trans (List.drop_suffix _ _).isInfix⟩
 ·rw[List.length_take,List.length_drop];omega
 ·rw[List.length_take];omega
 ·rw[List.length_take,List.length_drop];omega
theorem Kw (gs:List (List aC)):xX gs=headB++(bQ gs++(jI gs++(four (jI gs).length++[69,78,84,82]))):=by simp[xX]
theorem NP (gs:List (List aC)):(xX gs).length=5+(bQ gs).length+(jI gs).length+8:=by
 rw[Kw];simp only[List.length_append,headB,four,List.length_cons,List.length_nil];omega
def PostE.fits (p:PostE):Prop:=p.text.size<=1024/\p.gs.length<=2048/\∀g∈p.gs,g<=262144
theorem EC {l:List aC} (hg:dX l):okB (g_ l):=by
 have hc:∀x∈aY l,okB x:=by
  have hl:=hg.few;have hI:∀zs:List Int,zs.length<=256->jc zs=0->okB (aH 1 (dM zs)):=fun zs h1 h2=>Xc (by decide) (wG h2) (by have:=(Ya h2).2;omega);intro x hx;unfold aY at hx;simp only[List.mem_cons,List.not_mem_nil,or_false]at hx;rcases hx with rfl|rfl|rfl|rfl|rfl|rfl|rfl|rfl|rfl
  ·exact hI _ (by simpa using hl) hg.time
  ·exact hI _ (by simpa using hl) hg.maker
  ·exact hI _ (by simpa using hl) hg.seq
  ·exact hI _ (by simpa using hl) hg.place
  ·exact hI _ (by simpa using hl) hg.kind
  ·exact Xc (by decide) (pK (by simp;omega) (Bv l)) hg.words
  ·exact Xc (by decide) (pV (by simp;omega) hg.text).1 hg.texts
  ·exact hI _ (by simpa using hl) hg.value
  ·exact Xc (by decide) (qO (by simp;omega)) (by have:=Yq (l:=l.map fun x=>x.null) (by simp;omega);omega)
 intro x hx;unfold g_ at hx;obtain ⟨t,ht,hx⟩:=List.mem_flatMap.1 hx;have hl:=OL hg t ht;unfold eP at hx;rcases List.mem_append.1 hx with hx|hx
 ·exact iP (by omega) x hx
 ·exact hc t ht x hx
theorem rD {l:List aC} {per:Int} (h:rF l per=0):1<=per/\per<=256/\l.length<=2048/\iZ l=true/\(DJ l per.toNat).length<=262144:=by
 unfold rF at h;split at h
 ·cases h
 ·split at h
  ·cases h
  ·split at h
   ·cases h
   ·split at h
    ·cases h
    ·next h1 h2 h3 h4=>exact ⟨by omega,by omega,by omega,by simpa using h3,by omega⟩
theorem JH {l:List aC} {per:Nat} (hp:0<per) (h2:per<=256) (hl:iZ l=true):∀g∈dW per l,dX g/\iZ g=true:=fun g hg=>by
 obtain ⟨c1,c2,c3,c4,c5⟩:=JG hp hg;obtain ⟨m1,m2,m3⟩:=OE.1 hl;exact ⟨⟨by omega,fun x hx=>m2 x (c4 x hx)⟩,OE.2 ⟨c1,fun x hx=>m2 x (c4 x hx),m3.sublist c5.sublist⟩⟩
theorem AA {α:Type} {l:List α} {per:Nat} (hp:0<per):(dW per l).length<=l.length:=by
 rw[Qm];by_cases h:l.length=0
 ·rw[h,Nat.zero_add,Nat.div_eq_of_lt (by omega)]
  exact Nat.zero_le _
 ·refine Nat.div_le_of_le_mul ?_
  have:l.length<=per * l.length:=Nat.le_mul_of_pos_left _ hp;obtain ⟨q,rfl⟩:∃q,per=q+1:=⟨per-1,by omega⟩;have e:(q+1) * l.length=q * l.length+l.length:=by rw[Nat.succ_mul]
  have:q<=q * l.length:=Nat.le_mul_of_pos_right _ (by omega);omega
theorem vO {gs:List (List aC)} (hg:gs.length<=2048):∀p∈Ll gs,p.fits:=fun p hp=>by
 obtain ⟨t,ht,rfl⟩:=List.mem_map.1 hp;have ht:=OG.1 ht;obtain ⟨x,_,rfl⟩:=List.mem_map.1 ht;have h1:=Uy x;have h2:=wR (gs:=gs) (bP x);refine ⟨by simp only;omega,by simp only;omega,fun g hgg=>?_⟩;have:=CX g hgg;omega
section
variable {l : List aC} {per : Int} (h : rF l per = 0)
include h
theorem zV:∃gs,gs=dW per.toNat l/\DJ l per.toNat=xX gs/\0<per.toNat/\per.toNat<=256/\0<l.length/\(∀g∈gs,dX g/\iZ g=true)/\gs.length<=2048/\0<gs.length/\gs.flatten=l/\l.length<=2048/\5+(bQ gs).length<=262144/\(xX gs).length<=262144:=by
 obtain ⟨h1,h2,h3,h4,h5⟩:=rD h;have hp:0<per.toNat:=by omega
 have hl:=(OE.1 h4).1;refine ⟨_,rfl,rfl,hp,by omega,hl,JH hp (by omega) h4,?_,?_,qQ hp l,h3,?_,h5⟩
 ·have:=AA (l:=l) hp;omega
 ·rw[mY hp hl];simp
 ·have:=NP (dW per.toNat l)
  unfold DJ at h5;omega
end
theorem ED {l:List aC} {per:Int} (h:rF l per=0):okB (DJ l per.toNat):=by
 obtain ⟨gs,e,a1,a2,a3,a4,a5,a6,a7,a8,a9,a10,a11⟩:=zV h;have hsp:=ql (gs:=gs) (fun g hg=>(a5 g hg).1) (by omega);have hl1:(rG 5 gs).length=gs.length:=Ur _ _
 have hl2:(Ll gs).length<=2048:=by
  unfold Ll;have:=z11 (gs.flatten.map bP);rw[List.length_map]at this ⊢;rw[a8]at this;rw[a8];omega
 have hidx:okB (iR (rG 5 gs) (Ll gs)):=by
  unfold iR;refine h_ (h_ (h_ (iP (by omega)) (Qs fun s hs=>?_)) (iP (by omega))) (Qs fun x hx=>?_)
  ·obtain ⟨a,b,c,d,e⟩:=hsp s hs
   unfold iq;exact h_ (h_ (h_ (h_ (iP (by omega)) (iP (by omega))) (iP (by omega))) (iP (by omega))) (iP (by omega))
  ·obtain ⟨b1,b2,b3⟩:=vO a6 x hx
   unfold eU;exact h_ (h_ (h_ (iP (by omega)) (rO _)) (iP (by omega))) (Qs fun g hg=>iP (by have:=b3 g hg;omega))
 rw[a1];unfold xX;refine h_ (h_ (h_ (h_ ?_ (Qs fun g hg=>EC (a5 g hg).1)) (vw hidx)) (CZ _)) ?_
 ·intro x hx
  unfold headB at hx;simp only[List.mem_cons,List.not_mem_nil,or_false]at hx;omega
 ·intro x hx
  simp only[List.mem_cons,List.not_mem_nil,or_false]at hx;omega
end Go.Proofs.YtdbfejfhpkakhaaGreat
