/- Contracts and plain laws that the last text rests on. Conditions: each theorem states its own. -/
import Derived.Test.YtdbfejfhpkakhaaGreatKKd2PbArB
import Derived.Test.YtdbfejfhpkakhaaGreatKKd2Q28
import Derived.Test.YtdbfejfhpkakhaaGreatKKd2Q26
import Derived.Test.YtdbfejfhpkakhaaGreatKKd2Q27
set_option maxRecDepth 100000
set_option maxHeartbeats 32000000
set_option linter.unusedVariables false
set_option linter.unusedSimpArgs false
namespace Go.Proofs.YtdbfejfhpkakhaaGreat
open Go.RowKit Ps
theorem Xh {w:World} {D:Nat->Prop} {A:Option Addr} {n k:Nat} {l:List pV} (h:Rd w D 10 A n (FW l)) (hk:k<l.length):∃ad,A=some ad/\D ad.block/\w.cell? (ad.add (k * 10))=some (.string l[k].k)/\
 w.cell? ⟨(ad.add (k * 10)).block,(ad.add (k * 10)).off+1,none⟩=some (.int .i64 l[k].x0)/\w.cell? ⟨(ad.add (k * 10)).block,(ad.add (k * 10)).off+2,none⟩=some (.string l[k].p)/\
 w.cell? ⟨(ad.add (k * 10)).block,(ad.add (k * 10)).off+3,none⟩=some (.int .i64 l[k].x1)/\w.cell? ⟨(ad.add (k * 10)).block,(ad.add (k * 10)).off+4,none⟩=some (.int .i64 l[k].x2)/\
 w.cell? ⟨(ad.add (k * 10)).block,(ad.add (k * 10)).off+5,none⟩=some (.int .i64 l[k].x3)/\w.cell? ⟨(ad.add (k * 10)).block,(ad.add (k * 10)).off+6,none⟩=some (.int .i64 l[k].x4)/\
 w.cell? ⟨(ad.add (k * 10)).block,(ad.add (k * 10)).off+7,none⟩=some (.int .u32 (l[k].x5:Int))/\w.cell? ⟨(ad.add (k * 10)).block,(ad.add (k * 10)).off+8,none⟩=some (.int .i64 l[k].x6)/\
 w.cell? ⟨(ad.add (k * 10)).block,(ad.add (k * 10)).off+9,none⟩=some (.pointer l[k].g):=by
 have hn:0<n:=by have:=h.1;rw[Pg]at this;omega
 obtain ⟨ad,rfl,hb,hc⟩:=h.2 hn;have g:=fun i (hi:i<10) u (hu:(l[k].cs)[i]?=some u)=>hc (k * 10+i) u ((oI pV.aQ hk hi).trans hu);exact ⟨ad,rfl,hb,g 0 (by decide) _ rfl,z09 0 (g 1 (by decide) _ rfl),z09 1 (g 2 (by decide) _ rfl),z09 2 (g 3 (by decide) _ rfl),z09 3 (g 4 (by decide) _ rfl),z09 4 (g 5 (by decide) _ rfl),z09 5 (g 6 (by decide) _ rfl),z09 6 (g 7 (by decide) _ rfl),z09 7 (g 8 (by decide) _ rfl),z09 8 (g 9 (by decide) _ rfl)⟩
section
variable {w : World} {a ag life : Nat} {C : aV} {A : Option Addr} {k bb : Nat} {wt wv : Value} {since : Int} {fl : Bool}
theorem nO {v:Value} {bl:Int} {base:Nat} {iK:List pV} (h:yV w a ag life C A k bb wt wv since fl v bl) (ho:w.ownsRow base 145 10 v iK.length (FW iK)) (hf:NS base w ag life C iK) (hne:iK≠[]):
 Calls Tryz.prog 38 #[.pointer (some ⟨a,0,none⟩)] w fun e w'=>∃g n dv key,e=.returned (.pointer (some ⟨g,0,none⟩))/\Nx w w'/\Iu w g (jr key n C.piece C.tries C.wait) dv/\(ag<=9->life<=9->key=GL ag life)/\base<=g:=by
 obtain ⟨x,rest,g,n,dv,key,rfl,hx,hu,hk⟩:=hf hne;obtain ⟨Ap,cp,rfl, -, -⟩:=h_ ho;obtain ⟨ad,rfl, -,p0,p1,p2,p3,p4,p5,p6,p7,p8,p9⟩:=Xh (k:=0) (Rd.bW ho) (by simp)
 have e0:ad.add (0 * 10)=ad:=by
  obtain ⟨b,o,i⟩:=ad;unfold Addr.add;split<;>simp_all
 rw[e0]at p0 p1 p2 p3 p4 p5 p6 p7 p8 p9;clear e0;obtain ⟨k0,s0,x0,x1,x2,x3,x4,x5,x6,xg⟩:=x;simp only[List.getElem_cons_zero]at p0 p1 p2 p3 p4 p5 p6 p7 p8 p9 hx;subst hx;have d19:w.cell? ⟨a,19,none⟩=some (.slice (some ad) (List.length (⟨k0,s0,x0,x1,x2,x3,x4,x5,x6,some ⟨g,0,none⟩⟩::rest)) cp):=h.blk.cell 19;obtain ⟨m,hm⟩:∃m,rest.length=m:=⟨_,rfl⟩;rw[List.length_cons,hm]at d19;have HU:=ah hu;have HK:=ah hk;clear hne hm h ho hu hk;go_enter Tryz.func38,Tryz.ntmps38;go_wp2_with fail;go_loopw [10] (fun i wr=>i=.int .i64 0/\Hid (wr=w)) (fun _ _=>0)
 case atStart=>exact ⟨rfl,ah rfl⟩
 case round=>
  obtain ⟨rfl,HW⟩:=hrel;have hw:=HW.out;subst hw;have HC:=ah (EZ (HU.out.alloc (.cells #[.string k0,.int .i64 x0,.string s0,.int .i64 x1,.int .i64 x2,.int .i64 x3,.int .i64 x4,.int .u32 (x5:Int),.int .i64 x6,.pointer (some ⟨g,0,none⟩)] 145)));go_wp2_with fail;refine HC.out.mono ?_;rintro e w3 ⟨rfl,rfl⟩;go_wp2_with fail;go_ret;exact ⟨g,n,dv,key,rfl,(Ch.refl _ _).alloc _,HU.out,HK.out⟩
def MV (ξ:Nat) (w:World) (a ag life:Nat) (aN:List dF) (e:Ending) (w':World):Prop:=
 ∃key,e=.returned (.tuple #[cO 7 key (.slice none 0 0) 0 0 0 0,.bool true])/\(ag<=9->life<=9->key=GL ag life)/\Ch (fun i=>NC ξ w i∨i=a) w w'/\∃Aw cw,w'.cell? ⟨a,15,none⟩=some (.slice none 0 0)/\w'.cell? ⟨a,16,none⟩=some (.slice Aw aN.length cw)
theorem AU {ξ:Nat} {M K:Nat} {aN:List dF} {cnt:ByteArray->Nat} (yT:∀(n:Nat) (w:World),n<=M->Calls Tryz.prog 62 #[.int .i64 (n:Int)] w (oq n w)) (hM1:ag<=M) (hM2:life<=M) (hM3:M<=1099511627776)
 (h:je ξ w a ag life C aN cnt since true K wt) (hne:aN≠[]) (hK:K<=10000) (hr:(bQ aN).length<=1000) (RS:(bQ aN).length<=M) (KZ:bQ aN≠[]) (now:Int) (Us:0<=now):
 Calls Tryz.prog 14 #[.pointer (some ⟨a,0,none⟩),.int .i64 now] w (MV ξ w a ag life aN):=by
 obtain ⟨A,k,bb,m,n,ch,R,h1,h2,h3,h4,h5⟩:=h;obtain ⟨Aw,cw,rfl, -, -⟩:=h_ h3;have HA:=ah h1;have HO:=ah h3;have HB:=ah h4;have HD:=ah yT;have HM:=ah (And.intro hM1 (And.intro hM2 hM3));have HRW:=ah (And.intro hr (And.intro RS KZ));have ha:a<w.heap.size:=h1.blk.lt;have hl:0<aN.length:=List.length_pos_iff.2 hne;have HF:=ah h1.fits;have f:=h1.blk.frozen;have c:=h1.blk.cell;unfold zn at c;have d15:w.cell? ⟨a,15,none⟩=some (.slice Aw aN.length cw):=c 15;have d16:w.cell? ⟨a,16,none⟩=some (.slice none 0 0):=c 16;have d18:w.cell? ⟨a,18,none⟩=some (.bool true):=c 18;have hHNE:=ah hne;clear h1 h3 h4 h5 hr RS KZ hM1 hM2 hM3 yT hne f c d15 d16 d18;go_enter Tryz.func14,Tryz.ntmps14;go_wp2_with fail;have N1:=ah ((Ch.refl (fun _=>False) w).alloc (.cells #[.int .i64 0,.string ⟨#[]⟩,.slice none 0 0,.int .i64 0,.int .i64 0,.int .i64 0,.int .i64 0] 49));have B1:=ah (aG.new w 49 #[.int .i64 0,.string ⟨#[]⟩,.slice none 0 0,.int .i64 0,.int .i64 0,.int .i64 0,.int .i64 0]);obtain ⟨w1,hW⟩:∃w1,w.alloc (.cells #[.int .i64 0,.string ⟨#[]⟩,.slice none 0 0,.int .i64 0,.int .i64 0,.int .i64 0,.int .i64 0] 49)=w1:=⟨_,rfl⟩;obtain ⟨pc,hpc⟩:∃pc,w.heap.size=pc:=⟨_,rfl⟩;rw[hW]at N1 B1;rw[hpc]at B1;simp only[hW,hpc];have WA:=ah hpc;have hpa:a<pc:=by rw[←hpc];exact ha
 have HA1:=ah (HA.out.nx N1.out);have HO1:=ah (z06 HO.out N1.out (fun _ _ hf=>hf));have HB1:=ah (fun x (hx:x∈aN)=>(⟨(HB.out x hx).1.nx N1.out,(HB.out x hx).2⟩:x.ok w1 (fun i=>a<i/\(Value.slice Aw aN.length cw).ownBlock≠some i)/\fB x.maker x.seq (x.l.map fun y=>y.row)=0));have ha1:a<w1.heap.size:=HA1.out.blk.lt;have f:=HA1.out.blk.frozen;have c:=HA1.out.blk.cell;unfold zn at c;have d15:w1.cell? ⟨a,15,none⟩=some (.slice Aw aN.length cw):=c 15;have d16:w1.cell? ⟨a,16,none⟩=some (.slice none 0 0):=c 16;have d18:w1.cell? ⟨a,18,none⟩=some (.bool true):=c 18;clear hW hpc ha HA HO HB;refine sD (fun w'=>w'.cell? ⟨a,15,none⟩=some (.slice Aw aN.length cw)/\w'.cell? ⟨a,16,none⟩=some (.slice none 0 0)/\w'.cell? ⟨a,18,none⟩=some (.bool true)) (fun _=>false) rfl ⟨d15,d16,d18⟩ (fun hS0=>?_)
 try simp only[Act.put,aA,au,ay]
 refine z00 (i:=0) (oi:=_) (v:=?_) rfl (fun _ _ _ h=>h) (Or.inl ⟨by rfl,?_⟩) ?_;rotate_left
 ·(intro w hSw;(try dsimp only at hSw);go_split_ands;go_simp;try with_reducible rfl)
 simp only[List.getElem_toArray,List.getElem_cons_zero,List.getElem_cons_succ,Act.put,aA,au,ay];refine z00 (i:=1) (oi:=_) (v:=?_) rfl (fun _ _ _ h=>h) (Or.inl ⟨by rfl,?_⟩) ?_;rotate_left
 ·(intro w hSw;(try dsimp only at hSw);go_split_ands;go_simp;try with_reducible rfl)
 simp only[List.getElem_toArray,List.getElem_cons_zero,List.getElem_cons_succ,Act.put,aA,au,ay];refine z00 (i:=2) (oi:=_) (v:=?_) rfl (fun _ _ _ h=>h) (Or.inl ⟨by rfl,?_⟩) ?_;rotate_left
 ·(intro w hSw;(try dsimp only at hSw);go_split_ands;go_simp;try with_reducible rfl)
 simp only[List.getElem_toArray,List.getElem_cons_zero,List.getElem_cons_succ,Act.put,aA,au,ay];refine z00 (i:=3) (oi:=_) (v:=?_) rfl (fun _ _ _ h=>h) (Or.inl ⟨by rfl,?_⟩) ?_;rotate_left
 ·(intro w hSw;(try dsimp only at hSw);go_split_ands;go_simp;try with_reducible rfl)
 simp only[List.getElem_toArray,List.getElem_cons_zero,List.getElem_cons_succ,Act.put,aA,au,ay];refine z00 (i:=4) (oi:=_) (v:=?_) rfl (fun _ _ _ h=>h) (Or.inl ⟨by rfl,?_⟩) ?_;rotate_left
 ·(intro w hSw;(try dsimp only at hSw);go_split_ands;go_simp;try with_reducible rfl)
 simp only[List.getElem_toArray,List.getElem_cons_zero,List.getElem_cons_succ,Act.put,aA,au,ay];refine z00 (i:=5) (oi:=_) (v:=?_) rfl (fun _ _ _ h=>h) (Or.inl ⟨by rfl,?_⟩) ?_;rotate_left
 ·(intro w hSw;(try dsimp only at hSw);go_split_ands;go_simp;try with_reducible rfl)
 simp only[List.getElem_toArray,List.getElem_cons_zero,List.getElem_cons_succ,Act.put,aA,au,ay];refine z00 (i:=6) (oi:=_) (v:=?_) rfl (fun _ _ _ h=>h) (Or.inl ⟨by rfl,?_⟩) ?_;rotate_left
 ·(intro w hSw;(try dsimp only at hSw);go_split_ands;go_simp;try with_reducible rfl)
 simp only[List.getElem_toArray,List.getElem_cons_zero,List.getElem_cons_succ,Act.put,aA,au,ay];refine z00 (i:=7) (oi:=_) (v:=?_) rfl (fun _ _ _ h=>h) (Or.inl ⟨by rfl,?_⟩) ?_;rotate_left
 ·(intro w hSw;(try dsimp only at hSw);go_split_ands;go_simp;try with_reducible rfl)
 simp only[List.getElem_toArray,List.getElem_cons_zero,List.getElem_cons_succ,Act.put,aA,au,ay];refine z00 (i:=8) (oi:=_) (v:=?_) rfl (fun _ _ _ h=>h) (Or.inl ⟨by rfl,?_⟩) ?_;rotate_left
 ·(intro w hSw;(try dsimp only at hSw);go_split_ands;go_simp;try with_reducible rfl)
 simp only[List.getElem_toArray,List.getElem_cons_zero,List.getElem_cons_succ,Act.put,aA,au,ay];refine z00 (i:=9) (oi:=_) (v:=?_) rfl (fun _ _ _ h=>h) (Or.inl ⟨by rfl,?_⟩) ?_;rotate_left
 ·(intro w hSw;(try dsimp only at hSw);go_split_ands;go_simp;try with_reducible rfl)
 simp only[List.getElem_toArray,List.getElem_cons_zero,List.getElem_cons_succ,Act.put,aA,au,ay];refine z00 (i:=10) (oi:=_) (v:=?_) rfl (fun _ _ _ h=>h) (Or.inl ⟨by rfl,?_⟩) ?_;rotate_left
 ·(intro w hSw;(try dsimp only at hSw);go_split_ands;go_simp;try with_reducible rfl)
 simp only[List.getElem_toArray,List.getElem_cons_zero,List.getElem_cons_succ,Act.put,aA,au,ay];refine z00 (i:=11) (oi:=_) (v:=?_) rfl (fun _ _ _ h=>h) (Or.inl ⟨by rfl,?_⟩) ?_;rotate_left
 ·(intro w hSw;(try dsimp only at hSw);go_split_ands;go_simp;try with_reducible rfl)
 simp only[List.getElem_toArray,List.getElem_cons_zero,List.getElem_cons_succ,Act.put,aA,au,ay];refine z00 (i:=12) (oi:=_) (v:=?_) rfl (fun _ _ _ h=>h) (Or.inl ⟨by rfl,?_⟩) ?_;rotate_left
 ·(intro w hSw;(try dsimp only at hSw);go_split_ands;go_simp;try with_reducible rfl)
 simp only[List.getElem_toArray,List.getElem_cons_zero,List.getElem_cons_succ,Act.put,aA,au,ay];refine z00 (i:=13) (oi:=_) (v:=?_) rfl (fun _ _ _ h=>h) (Or.inl ⟨by rfl,?_⟩) ?_;rotate_left
 ·(intro w hSw;(try dsimp only at hSw);go_split_ands;go_simp;try with_reducible rfl)
 simp only[List.getElem_toArray,List.getElem_cons_zero,List.getElem_cons_succ,Act.put,aA,au,ay];refine z00 (i:=14) (oi:=_) (v:=?_) rfl (fun _ _ _ h=>h) (Or.inl ⟨by rfl,?_⟩) ?_;rotate_left
 ·(intro w hSw;(try dsimp only at hSw);go_split_ands;go_simp;try with_reducible rfl)
 simp only[List.getElem_toArray,List.getElem_cons_zero,List.getElem_cons_succ,Act.put,aA,au,ay];refine z00 (i:=15) (oi:=_) (v:=?_) rfl (fun _ _ _ h=>h) (Or.inl ⟨by rfl,?_⟩) ?_;rotate_left
 ·(intro w hSw;(try dsimp only at hSw);go_split_ands;go_simp;try with_reducible rfl)
 simp only[List.getElem_toArray,List.getElem_cons_zero,List.getElem_cons_succ,Act.put,aA,au,ay];refine z00 (i:=16) (oi:=_) (v:=?_) rfl (fun _ _ _ h=>h) (Or.inl ⟨by rfl,?_⟩) ?_;rotate_left
 ·(intro w hSw;(try dsimp only at hSw);go_split_ands;go_simp;try with_reducible rfl)
 simp only[List.getElem_toArray,List.getElem_cons_zero,List.getElem_cons_succ,Act.put,aA,au,ay];refine z00 (i:=17) (oi:=_) (v:=?_) rfl (fun _ _ _ h=>h) (Or.inl ⟨by rfl,?_⟩) ?_;rotate_left
 ·(intro w hSw;(try dsimp only at hSw);go_split_ands;go_simp;try with_reducible rfl)
 simp only[List.getElem_toArray,List.getElem_cons_zero,List.getElem_cons_succ,Act.put,aA,au,ay];refine z00 (i:=18) (oi:=_) (v:=?_) rfl (fun _ _ _ h=>h) (Or.inl ⟨by rfl,?_⟩) ?_;rotate_left
 ·(intro w hSw;(try dsimp only at hSw);go_split_ands;go_simp;try with_reducible rfl)
 simp only[List.getElem_toArray,List.getElem_cons_zero,List.getElem_cons_succ,Act.put,aA,au,ay];refine z00 (i:=19) (oi:=_) (v:=?_) rfl (fun _ _ _ h=>h) (Or.inl ⟨by rfl,?_⟩) ?_;rotate_left
 ·(intro w hSw;(try dsimp only at hSw);go_split_ands;go_simp;try with_reducible rfl)
 simp only[List.getElem_toArray,List.getElem_cons_zero,List.getElem_cons_succ,Act.put,aA,au,ay];refine z03 (i:=20) (oi:=_) (v:=undef) rfl (by kernel_rfl) (by kernel_rfl) (by kernel_rfl) (by kernel_rfl) (by kernel_rfl) (by decide) (fun _ _ _ h=>h) (Or.inr ⟨by kernel_rfl,rfl⟩) (by assumption) ?_;simp only[List.getElem_toArray,List.getElem_cons_zero,List.getElem_cons_succ,Act.put,aA,au,ay];refine z03 (i:=21) (oi:=_) (v:=undef) rfl (by kernel_rfl) (by kernel_rfl) (by kernel_rfl) (by kernel_rfl) (by kernel_rfl) (by decide) (fun _ _ _ h=>h) (Or.inr ⟨by kernel_rfl,rfl⟩) (by assumption) ?_;simp only[List.getElem_toArray,List.getElem_cons_zero,List.getElem_cons_succ,Act.put,aA,au,ay];refine z03 (i:=22) (oi:=_) (v:=undef) rfl (by kernel_rfl) (by kernel_rfl) (by kernel_rfl) (by kernel_rfl) (by kernel_rfl) (by decide) (fun _ _ _ h=>h) (Or.inr ⟨by kernel_rfl,rfl⟩) (by assumption) ?_;simp only[List.getElem_toArray,List.getElem_cons_zero,List.getElem_cons_succ,Act.put,aA,au,ay];refine z03 (i:=23) (oi:=_) (v:=undef) rfl (by kernel_rfl) (by kernel_rfl) (by kernel_rfl) (by kernel_rfl) (by kernel_rfl) (by decide) (fun _ _ _ h=>h) (Or.inr ⟨by kernel_rfl,rfl⟩) (by assumption) ?_;simp only[List.getElem_toArray,List.getElem_cons_zero,List.getElem_cons_succ,Act.put,aA,au,ay];refine z03 (i:=24) (oi:=_) (v:=undef) rfl (by kernel_rfl) (by kernel_rfl) (by kernel_rfl) (by kernel_rfl) (by kernel_rfl) (by decide) (fun _ _ _ h=>h) (Or.inr ⟨by kernel_rfl,rfl⟩) (by assumption) ?_;simp only[List.getElem_toArray,List.getElem_cons_zero,List.getElem_cons_succ,Act.put,aA,au,ay];refine z03 (i:=25) (oi:=_) (v:=undef) rfl (by kernel_rfl) (by kernel_rfl) (by kernel_rfl) (by kernel_rfl) (by kernel_rfl) (by decide) (fun _ _ _ h=>h) (Or.inr ⟨by kernel_rfl,rfl⟩) (by assumption) ?_;simp only[List.getElem_toArray,List.getElem_cons_zero,List.getElem_cons_succ,Act.put,aA,au,ay];refine z03 (i:=26) (oi:=_) (v:=undef) rfl (by kernel_rfl) (by kernel_rfl) (by kernel_rfl) (by kernel_rfl) (by kernel_rfl) (by decide) (fun _ _ _ h=>h) (Or.inr ⟨by kernel_rfl,rfl⟩) (by assumption) ?_;simp only[List.getElem_toArray,List.getElem_cons_zero,List.getElem_cons_succ,Act.put,aA,au,ay];refine z03 (i:=27) (oi:=_) (v:=undef) rfl (by kernel_rfl) (by kernel_rfl) (by kernel_rfl) (by kernel_rfl) (by kernel_rfl) (by decide) (fun _ _ _ h=>h) (Or.inr ⟨by kernel_rfl,rfl⟩) (by assumption) ?_;simp only[List.getElem_toArray,List.getElem_cons_zero,List.getElem_cons_succ,Act.put,aA,au,ay];refine z03 (i:=28) (oi:=_) (v:=undef) rfl (by kernel_rfl) (by kernel_rfl) (by kernel_rfl) (by kernel_rfl) (by kernel_rfl) (by decide) (fun _ _ _ h=>h) (Or.inr ⟨by kernel_rfl,rfl⟩) (by assumption) ?_;simp only[List.getElem_toArray,List.getElem_cons_zero,List.getElem_cons_succ,Act.put,aA,au,ay];refine z03 (i:=29) (oi:=_) (v:=undef) rfl (by kernel_rfl) (by kernel_rfl) (by kernel_rfl) (by kernel_rfl) (by kernel_rfl) (by decide) (fun _ _ _ h=>h) (Or.inr ⟨by kernel_rfl,rfl⟩) (by assumption) ?_;simp only[List.getElem_toArray,List.getElem_cons_zero,List.getElem_cons_succ,Act.put,aA,au,ay];refine z03 (i:=30) (oi:=_) (v:=undef) rfl (by kernel_rfl) (by kernel_rfl) (by kernel_rfl) (by kernel_rfl) (by kernel_rfl) (by decide) (fun _ _ _ h=>h) (Or.inr ⟨by kernel_rfl,rfl⟩) (by assumption) ?_;simp only[List.getElem_toArray,List.getElem_cons_zero,List.getElem_cons_succ,Act.put,aA,au,ay];refine z00 (i:=31) (oi:=_) (v:=?_) rfl (fun _ _ _ h=>h) (Or.inl ⟨by rfl,?_⟩) ?_;rotate_left
 ·(intro w hSw;(try dsimp only at hSw);go_split_ands;go_simp;try with_reducible rfl)
 simp only[List.getElem_toArray,List.getElem_cons_zero,List.getElem_cons_succ,Act.put,aA,au,ay];refine z00 (i:=32) (oi:=_) (v:=?_) rfl (fun _ _ _ h=>h) (Or.inl ⟨by rfl,?_⟩) ?_;rotate_left
 ·(intro w hSw;(try dsimp only at hSw);go_split_ands;go_simp;try with_reducible rfl)
 simp only[List.getElem_toArray,List.getElem_cons_zero,List.getElem_cons_succ,Act.put,aA,au,ay];refine z03 (i:=33) (oi:=_) (v:=undef) rfl (by kernel_rfl) (by kernel_rfl) (by kernel_rfl) (by kernel_rfl) (by kernel_rfl) (by decide) (fun _ _ _ h=>h) (Or.inr ⟨by kernel_rfl,rfl⟩) (by assumption) ?_;simp only[List.getElem_toArray,List.getElem_cons_zero,List.getElem_cons_succ,Act.put,aA,au,ay];refine z03 (i:=34) (oi:=_) (v:=undef) rfl (by kernel_rfl) (by kernel_rfl) (by kernel_rfl) (by kernel_rfl) (by kernel_rfl) (by decide) (fun _ _ _ h=>h) (Or.inr ⟨by kernel_rfl,rfl⟩) (by assumption) ?_;simp only[List.getElem_toArray,List.getElem_cons_zero,List.getElem_cons_succ,Act.put,aA,au,ay];refine z03 (i:=35) (oi:=_) (v:=undef) rfl (by kernel_rfl) (by kernel_rfl) (by kernel_rfl) (by kernel_rfl) (by kernel_rfl) (by decide) (fun _ _ _ h=>h) (Or.inr ⟨by kernel_rfl,rfl⟩) (by assumption) ?_;simp only[List.getElem_toArray,List.getElem_cons_zero,List.getElem_cons_succ,Act.put,aA,au,ay];refine z03 (i:=36) (oi:=_) (v:=undef) rfl (by kernel_rfl) (by kernel_rfl) (by kernel_rfl) (by kernel_rfl) (by kernel_rfl) (by decide) (fun _ _ _ h=>h) (Or.inr ⟨by kernel_rfl,rfl⟩) (by assumption) ?_;simp only[List.getElem_toArray,List.getElem_cons_zero,List.getElem_cons_succ,Act.put,aA,au,ay];refine z03 (i:=37) (oi:=_) (v:=undef) rfl (by kernel_rfl) (by kernel_rfl) (by kernel_rfl) (by kernel_rfl) (by kernel_rfl) (by decide) (fun _ _ _ h=>h) (Or.inr ⟨by kernel_rfl,rfl⟩) (by assumption) ?_;simp only[List.getElem_toArray,List.getElem_cons_zero,List.getElem_cons_succ,Act.put,aA,au,ay];refine z03 (i:=38) (oi:=_) (v:=undef) rfl (by kernel_rfl) (by kernel_rfl) (by kernel_rfl) (by kernel_rfl) (by kernel_rfl) (by decide) (fun _ _ _ h=>h) (Or.inr ⟨by kernel_rfl,rfl⟩) (by assumption) ?_;simp only[List.getElem_toArray,List.getElem_cons_zero,List.getElem_cons_succ,Act.put,aA,au,ay];refine z03 (i:=39) (oi:=_) (v:=undef) rfl (by kernel_rfl) (by kernel_rfl) (by kernel_rfl) (by kernel_rfl) (by kernel_rfl) (by decide) (fun _ _ _ h=>h) (Or.inr ⟨by kernel_rfl,rfl⟩) (by assumption) ?_;simp only[List.getElem_toArray,List.getElem_cons_zero,List.getElem_cons_succ,Act.put,aA,au,ay];refine z03 (i:=40) (oi:=_) (v:=undef) rfl (by kernel_rfl) (by kernel_rfl) (by kernel_rfl) (by kernel_rfl) (by kernel_rfl) (by decide) (fun _ _ _ h=>h) (Or.inr ⟨by kernel_rfl,rfl⟩) (by assumption) ?_;simp only[List.getElem_toArray,List.getElem_cons_zero,List.getElem_cons_succ,Act.put,aA,au,ay];refine z03 (i:=41) (oi:=_) (v:=undef) rfl (by kernel_rfl) (by kernel_rfl) (by kernel_rfl) (by kernel_rfl) (by kernel_rfl) (by decide) (fun _ _ _ h=>h) (Or.inr ⟨by kernel_rfl,rfl⟩) (by assumption) ?_;simp only[List.getElem_toArray,List.getElem_cons_zero,List.getElem_cons_succ,Act.put,aA,au,ay];refine z03 (i:=42) (oi:=_) (v:=undef) rfl (by kernel_rfl) (by kernel_rfl) (by kernel_rfl) (by kernel_rfl) (by kernel_rfl) (by decide) (fun _ _ _ h=>h) (Or.inr ⟨by kernel_rfl,rfl⟩) (by assumption) ?_;simp only[List.getElem_toArray,List.getElem_cons_zero,List.getElem_cons_succ,Act.put,aA,au,ay];refine z03 (i:=43) (oi:=_) (v:=undef) rfl (by kernel_rfl) (by kernel_rfl) (by kernel_rfl) (by kernel_rfl) (by kernel_rfl) (by decide) (fun _ _ _ h=>h) (Or.inr ⟨by kernel_rfl,rfl⟩) (by assumption) ?_;simp only[List.getElem_toArray,List.getElem_cons_zero,List.getElem_cons_succ,Act.put,aA,au,ay];refine z03 (i:=44) (oi:=_) (v:=undef) rfl (by kernel_rfl) (by kernel_rfl) (by kernel_rfl) (by kernel_rfl) (by kernel_rfl) (by decide) (fun _ _ _ h=>h) (Or.inr ⟨by kernel_rfl,rfl⟩) (by assumption) ?_;simp only[List.getElem_toArray,List.getElem_cons_zero,List.getElem_cons_succ,Act.put,aA,au,ay];refine z00 (i:=45) (oi:=_) (v:=?_) rfl (fun _ _ _ h=>h) (Or.inl ⟨by rfl,?_⟩) ?_;rotate_left
 ·(intro w hSw;(try dsimp only at hSw);go_split_ands;go_simp;try with_reducible rfl)
 simp only[List.getElem_toArray,List.getElem_cons_zero,List.getElem_cons_succ,Act.put,aA,au,ay];refine z00 (i:=46) (oi:=_) (v:=?_) rfl (fun _ _ _ h=>h) (Or.inl ⟨by rfl,?_⟩) ?_;rotate_left
 ·(intro w hSw;(try dsimp only at hSw);go_split_ands;go_simp;try with_reducible rfl)
 simp only[List.getElem_toArray,List.getElem_cons_zero,List.getElem_cons_succ,Act.put,aA,au,ay];refine kE (by kernel_rfl) ?_ _;have C2:=ah (((((Ch.refl (· =a) w1).setCell (p:=⟨a,16,none⟩) (fun _=>rfl) (.slice Aw aN.length cw)).setCell (p:=⟨a,15,none⟩) (fun _=>rfl) (.slice none 0 0)).setCell (p:=⟨a,18,none⟩) (fun _=>rfl) (.bool false)).drew);have B2:=ah ((((HA1.out.blk.aS 16 (.slice Aw aN.length cw)).aS 15 (.slice none 0 0)).aS 18 (.bool false)).drew);go_wp2_with fail;obtain ⟨w2,hW⟩:∃w2,(((w1.setCell ⟨a,16,none⟩ (.slice Aw aN.length cw)).setCell ⟨a,15,none⟩ (.slice none 0 0)).setCell ⟨a,18,none⟩ (.bool false)).drew=w2:=⟨_,rfl⟩;rw[hW]at C2 B2;simp only[hW];have HA2:=ah (HA1.out.aS C2.out (wt':=.slice none 0 0) (wv':=.slice Aw aN.length cw) (since':=since) (PZ:=false) (pc':=.slice none 0 0) (NH:=0) B2.out);have ha2:a<w2.heap.size:=HA2.out.blk.lt;have hcl:C.buffer.toNat<=256:=by have:=(N_ HF.out).2.2.2.1;omega
 clear f c d15 d16 d18 hW;refine (r_ HA2.out.CB (by omega) (by omega)).mono ?_;rintro e w3 ⟨⟨v3,rfl⟩,c3⟩;have C3:=ah c3;clear c3;have HA3:=ah (HA2.out.lean_.nc C3.out);have HO2:=ah (z06 HO1.out C2.out fun k hk e=>by have e2:k=a:=e;have:=(World.ownsRow.lt HO1.out k hk).1;omega);have HO3:=ah (z06 HO2.out C3.out fun k hk hs=>hs.2 (Rk HO2.out hk))
 have HB3:=ah (fun x (hx:x∈aN)=>by
  obtain ⟨h1,h2⟩:=HB1.out x hx;have h3:=h1.ch (D':=fun i=>a<i/\(Value.slice Aw aN.length cw).ownBlock≠some i) C2.out (fun i _ hd e=>by have e2:i=a:=e;have:=hd.1;omega) fun _ h=>h;exact (⟨(h3.nc C3.out).more fun i hi=>hi.1,h2⟩:x.ok w3 (fun i=>a<i)/\fB x.maker x.seq (x.l.map fun y=>y.row)=0))
 have ha3:a<w3.heap.size:=HA3.out.blk.lt;have B3:=ah ((B1.out.ch C2.out (show ¬pc=a by omega)).ch C3.out (B1.out.ch C2.out (show ¬pc=a by omega)).nc);have Vx:=ah (fun w' (c:Nx w3 w')=>rZ HD.out HM.out.1 HM.out.2.1 HM.out.2.2 (HA3.out.nx c) aN rfl (((Rd.bW HO3.out).more (D':=fun i=>a<i) fun i hi=>by have:=hi.2.1;omega).nx (by decide) c) (fun i hi=>by omega) (fun x hx=>⟨(HB3.out x hx).1.nx c,(HB3.out x hx).2⟩) HRW.out.1 HRW.out.2.1);clear HB1 HO1 HA1 HO2 B1 B2 HB3;go_wp2_with fail;refine (Vx.out _ (by first|exact Ch.refl _ _|exact (Ch.refl _ _).drew)).mono ?_;rintro e w4 ⟨rfl,c4,v4,iK,hal,hown, -,hpn,hfi⟩;have C34:=ah (show Ch (· =a) w3 w4 from by first|exact c4|exact (Ch.refl (· =a) w3).drew.trans c4 fun _ _ h=>h);have YP:=ah hal;have YM:=ah (fun w' (c:Nx w4 w')=>nO (hal.nx c) (z06 hown c (fun _ _ hf=>hf)) (hfi.ch c fun _ _ _ hf=>hf) (hpn HRW.out.2.2));clear c4 hal hown hpn hfi Vx;go_wp2_with fail;refine (YM.out _ (by first|exact Ch.refl _ _|exact (Ch.refl _ _).drew)).mono ?_;rintro e w5 ⟨g,n0,dv,key,rfl,n5,hu,hk,hgb⟩;have N45:=ah (show Nx w4 w5 from by first|exact n5|exact (Ch.refl _ _).drew.tr n5);have HK:=ah hk;have HU:=ah (show Iu w5 g (jr key n0 C.piece C.tries C.wait) dv from hu.nx n5);clear n5 hu hk YM;have HA5:=ah (YP.out.nx N45.out);have ga:¬a=g:=HA5.out.blk.DT HU.out (by decide);have B5:=ah ((B3.out.ch C34.out (show ¬pc=a by omega)).nx N45.out);have gp:¬pc=g:=B5.out.DT HU.out (by decide);go_wp2_with fail;refine (z3x HU.out now rfl rfl Us).mono ?_;rintro e w6 ⟨rfl,hu6,c6⟩;have C6:=ah c6;have BA6:=ah (HA5.out.blk.ch c6 ga);have B6:=ah (B5.out.ch c6 gp);clear hu6 c6 HA3 HA2 YP HU HO3 B3;have f6:=B6.out.frozen;have q6:=B6.out.cell;have hp6:pc<w6.heap.size:=B6.out.lt;have hs1:=N1.out.size;have hs2:=C2.out.size;have hs3:=C3.out.size;have hs4:=C34.out.size;have hs5:=N45.out.size
 have CT:=ah (show Ch (fun i=>NC ξ w i∨i=a) w w6 from by
  have h1:Ch (fun i=>NC ξ w i∨i=a) w w2:=(N1.out.mono fun _ _ hf=>hf.elim).trans C2.out fun _ _ h=>.inr h
  have h3:=h1.trans C3.out fun i hi hs=>by
   by_cases e:i=a
   ·exact .inr e
   ·refine .inl ⟨hs.1,fun hc=>hs.2 ?_⟩
    obtain ⟨cs,t,z,e2⟩:=hc;exact ⟨cs,t,z,(h1.block i hi (fun hx=>hx.elim (fun n=>n.2 ⟨cs,t,z,e2⟩) e)).trans e2⟩
  exact ((h3.trans C34.out fun _ _ h=>.inr h).tr N45.out).trans C6.out fun i hi e=>by have e2:i=g:=e;omega)
 have CP:=ah ((((((((Ch.refl (· =pc) w6).setCell (p:=⟨pc,0,none⟩) (fun _=>rfl) (.int .i64 7)).setCell (p:=⟨pc,1,none⟩) (fun _=>rfl) (.string key)).setCell (p:=⟨pc,2,none⟩) (fun _=>rfl) (.slice none 0 0)).setCell (p:=⟨pc,3,none⟩) (fun _=>rfl) (.int .i64 0)).setCell (p:=⟨pc,4,none⟩) (fun _=>rfl) (.int .i64 0)).setCell (p:=⟨pc,5,none⟩) (fun _=>rfl) (.int .i64 0)).setCell (p:=⟨pc,6,none⟩) (fun _=>rfl) (.int .i64 0));have BP:=ah (show aG (((((((w6.setCell ⟨pc,0,none⟩ (.int .i64 7)).setCell ⟨pc,1,none⟩ (.string key)).setCell ⟨pc,2,none⟩ (.slice none 0 0)).setCell ⟨pc,3,none⟩ (.int .i64 0)).setCell ⟨pc,4,none⟩ (.int .i64 0)).setCell ⟨pc,5,none⟩ (.int .i64 0)).setCell ⟨pc,6,none⟩ (.int .i64 0)) pc 49 #[.int .i64 7,.string key,.slice none 0 0,.int .i64 0,.int .i64 0,.int .i64 0,.int .i64 0] from (((((((B6.out.aS 0 (.int .i64 7)).aS 1 (.string key)).aS 2 (.slice none 0 0)).aS 3 (.int .i64 0)).aS 4 (.int .i64 0)).aS 5 (.int .i64 0)).aS 6 (.int .i64 0)));unfold cO;go_wp2_with fail;simp only[show (jr key n0 C.piece C.tries C.wait).key=key from rfl];obtain ⟨wF,hW⟩:∃wF,(((((((w6.setCell ⟨pc,0,none⟩ (.int .i64 7)).setCell ⟨pc,1,none⟩ (.string key)).setCell ⟨pc,2,none⟩ (.slice none 0 0)).setCell ⟨pc,3,none⟩ (.int .i64 0)).setCell ⟨pc,4,none⟩ (.int .i64 0)).setCell ⟨pc,5,none⟩ (.int .i64 0)).setCell ⟨pc,6,none⟩ (.int .i64 0))=wF:=⟨_,rfl⟩;rw[hW]at CP BP;simp only[hW];have d:=BP.out.cell;refine bodyPost_ret (v:=.tuple #[cO 7 key (.slice none 0 0) 0 0 0 0,.bool true]) (by simp[results,Tryz.results14,go_sem,cO,d]) rfl ?_;have BF:=BA6.out.ch CP.out (show ¬a=pc by omega);exact ⟨key,rfl,HK.out,CT.out.trans CP.out fun i hi e=>by have e2:i=pc:=e;have:=WA.out;omega,Aw,cw,BF.cell 15,BF.cell 16⟩
end
theorem z3d {w:World} {a n1 c1 n2 c2:Nat} {A1 A2:Option Addr} (h15:w.cell? ⟨a,15,none⟩=some (.slice A1 n1 c1)) (h16:w.cell? ⟨a,16,none⟩=some (.slice A2 n2 c2)) (hn1:n1<=10000) (hn2:n2<=10000):
 Calls Tryz.prog 15 #[.pointer (some ⟨a,0,none⟩)] w fun e w'=>e=.returned (.int .i64 ((n2:Int)+(n1:Int)))/\Nx w w':=by
 go_enter Tryz.func15,Tryz.ntmps15;go_wp2_with fail;refine sD (fun w'=>w'.cell? ⟨a,15,none⟩=some (.slice A1 n1 c1)/\w'.cell? ⟨a,16,none⟩=some (.slice A2 n2 c2)) (fun _=>false) rfl ⟨h15,h16⟩ (fun hS0=>?_)
 try simp only[Act.put,aA,au,ay]
 refine z00 (i:=0) (oi:=_) (v:=?_) rfl (fun _ _ _ h=>h) (Or.inl ⟨by rfl,?_⟩) ?_;rotate_left
 ·(intro w hSw;(try dsimp only at hSw);go_split_ands;go_simp;try with_reducible rfl)
 simp only[List.getElem_toArray,List.getElem_cons_zero,List.getElem_cons_succ,Act.put,aA,au,ay];refine z00 (i:=1) (oi:=_) (v:=?_) rfl (fun _ _ _ h=>h) (Or.inl ⟨by rfl,?_⟩) ?_;rotate_left
 ·(intro w hSw;(try dsimp only at hSw);go_split_ands;go_simp;try with_reducible rfl)
 simp only[List.getElem_toArray,List.getElem_cons_zero,List.getElem_cons_succ,Act.put,aA,au,ay];refine z00 (i:=2) (oi:=_) (v:=?_) rfl (fun _ _ _ h=>h) (Or.inl ⟨by rfl,?_⟩) ?_;rotate_left
 ·(intro w hSw;(try dsimp only at hSw);go_split_ands;go_simp;try with_reducible rfl)
 simp only[List.getElem_toArray,List.getElem_cons_zero,List.getElem_cons_succ,Act.put,aA,au,ay];refine z00 (i:=3) (oi:=_) (v:=?_) rfl (fun _ _ _ h=>h) (Or.inl ⟨by rfl,?_⟩) ?_;rotate_left
 ·(intro w hSw;(try dsimp only at hSw);go_split_ands;go_simp;try with_reducible rfl)
 simp only[List.getElem_toArray,List.getElem_cons_zero,List.getElem_cons_succ,Act.put,aA,au,ay];refine z00 (i:=4) (oi:=_) (v:=?_) rfl (fun _ _ _ h=>h) (Or.inl ⟨by rfl,?_⟩) ?_;rotate_left
 ·(intro w hSw;(try dsimp only at hSw);go_split_ands;go_simp;try with_reducible rfl)
 simp only[List.getElem_toArray,List.getElem_cons_zero,List.getElem_cons_succ,Act.put,aA,au,ay];refine z00 (i:=5) (oi:=_) (v:=?_) rfl (fun _ _ _ h=>h) (Or.inl ⟨by rfl,?_⟩) ?_;rotate_left
 ·(intro w hSw;(try dsimp only at hSw);go_split_ands;go_simp;try with_reducible rfl)
 simp only[List.getElem_toArray,List.getElem_cons_zero,List.getElem_cons_succ,Act.put,aA,au,ay];refine z00 (i:=6) (oi:=_) (v:=?_) rfl (fun _ _ _ h=>h) (Or.inl ⟨by rfl,?_⟩) ?_;rotate_left
 ·(intro w hSw;(try dsimp only at hSw);go_split_ands;go_simp;try with_reducible rfl)
 simp only[List.getElem_toArray,List.getElem_cons_zero,List.getElem_cons_succ,Act.put,aA,au,ay];refine z00 (i:=7) (oi:=_) (v:=?_) rfl (fun _ _ _ h=>h) (Or.inl ⟨by rfl,?_⟩) ?_;rotate_left
 ·(intro w hSw;(try dsimp only at hSw);go_split_ands;go_simp;try with_reducible rfl)
 simp only[List.getElem_toArray,List.getElem_cons_zero,List.getElem_cons_succ,Act.put,aA,au,ay];refine z00 (i:=8) (oi:=_) (v:=?_) rfl (fun _ _ _ h=>h) (Or.inl ⟨by rfl,?_⟩) ?_;rotate_left
 ·(intro w hSw;(try dsimp only at hSw);go_split_ands;go_simp;try with_reducible rfl)
 simp only[List.getElem_toArray,List.getElem_cons_zero,List.getElem_cons_succ,Act.put,aA,au,ay];refine z00 (i:=9) (oi:=_) (v:=?_) rfl (fun _ _ _ h=>h) (Or.inl ⟨by rfl,?_⟩) ?_;rotate_left
 ·(intro w hSw;(try dsimp only at hSw);go_split_ands;go_simp;try with_reducible rfl)
 simp only[List.getElem_toArray,List.getElem_cons_zero,List.getElem_cons_succ,Act.put,aA,au,ay];refine z00 (i:=10) (oi:=_) (v:=?_) rfl (fun _ _ _ h=>h) (Or.inl ⟨by rfl,?_⟩) ?_;rotate_left
 ·(intro w hSw;(try dsimp only at hSw);go_split_ands;go_simp;try with_reducible rfl)
 simp only[List.getElem_toArray,List.getElem_cons_zero,List.getElem_cons_succ,Act.put,aA,au,ay];refine z00 (i:=11) (oi:=_) (v:=?_) rfl (fun _ _ _ h=>h) (Or.inl ⟨by rfl,?_⟩) ?_;rotate_left
 ·(intro w hSw;(try dsimp only at hSw);go_split_ands;go_simp;try with_reducible rfl)
 simp only[List.getElem_toArray,List.getElem_cons_zero,List.getElem_cons_succ,Act.put,aA,au,ay];refine kE (by kernel_rfl) ?_ _;go_wp2_with fail;go_ret;have hw:IntKind.i64.wrap ((n2:Int)+(n1:Int))=(n2:Int)+(n1:Int):=by simp[IntKind.wrap,IntKind.bits,IntKind.signed];omega
 exact ⟨by show Ending.returned (.int .i64 (IntKind.i64.wrap ((n2:Int)+(n1:Int))))=_;rw[hw],(Ch.refl _ w).drew⟩
def cP:aV:=⟨10,[⟨#[115,118,99]⟩],2,8,4,5,64,3,1,4,8,6⟩
theorem Qi:okA 2 5 cP=true:=by kernel_rfl
def Yf (w:World) (e:Ending) (w':World):Prop:=∃B:Nat,e=.returned (iY cP (some ⟨B,0,none⟩) 1)/\Rd w' (fun i=>w.heap.size<=i/\i<w'.heap.size) 1 (some ⟨B,0,none⟩) 1 (dK cP.aH)/\Nx w w'
theorem wM (w:World):Calls Tryz.prog 16 #[] w (Yf w):=by
 go_enter Tryz.func16,Tryz.ntmps16;go_wp2_with fail;have hb:=(aG.new w 24 #[.int .i64 10,.slice (some ⟨w.heap.size+1,0,none⟩) 1 1,.int .i64 2,.int .i64 8,.int .i64 4,.int .i64 5,.int .i64 64,.int .i64 3,.int .i64 1,.int .i64 4,.int .i64 8,.int .i64 6]).alloc (.cells #[.string ⟨#[115,118,99]⟩] 9);have hr:=Rd.lit (w.alloc (.cells #[.int .i64 10,.slice (some ⟨w.heap.size+1,0,none⟩) 1 1,.int .i64 2,.int .i64 8,.int .i64 4,.int .i64 5,.int .i64 64,.int .i64 3,.int .i64 1,.int .i64 4,.int .i64 8,.int .i64 6] 24)) #[.string ⟨#[115,118,99]⟩] 9 (0,0);have hn:Nx w ((w.alloc (.cells #[.int .i64 10,.slice (some ⟨w.heap.size+1,0,none⟩) 1 1,.int .i64 2,.int .i64 8,.int .i64 4,.int .i64 5,.int .i64 64,.int .i64 3,.int .i64 1,.int .i64 4,.int .i64 8,.int .i64 6] 24)).alloc (.cells #[.string ⟨#[115,118,99]⟩] 9)):=((Ch.refl (fun _=>False) w).alloc _).alloc _;have hs:((w.alloc (.cells #[.int .i64 10,.slice (some ⟨w.heap.size+1,0,none⟩) 1 1,.int .i64 2,.int .i64 8,.int .i64 4,.int .i64 5,.int .i64 64,.int .i64 3,.int .i64 1,.int .i64 4,.int .i64 8,.int .i64 6] 24)).alloc (.cells #[.string ⟨#[115,118,99]⟩] 9)).heap.size=w.heap.size+2:=by simp
 rw[World.size_alloc]at hr;obtain ⟨wF,hW⟩:∃wF,(w.alloc (.cells #[.int .i64 10,.slice (some ⟨w.heap.size+1,0,none⟩) 1 1,.int .i64 2,.int .i64 8,.int .i64 4,.int .i64 5,.int .i64 64,.int .i64 3,.int .i64 1,.int .i64 4,.int .i64 8,.int .i64 6] 24)).alloc (.cells #[.string ⟨#[115,118,99]⟩] 9)=wF:=⟨_,rfl⟩;rw[hW]at hb hr hn hs;simp only[hW];have d:=hb.cell;refine bodyPost_ret (v:=iY cP (some ⟨w.heap.size+1,0,none⟩) 1) (by simp[results,Tryz.results16,go_sem,iY,cP,d]) rfl ⟨w.heap.size+1,rfl,hr.more fun i hi=>by omega,hn⟩
def rP:aC:=⟨1,0,[],⟨#[]⟩,0,false,1,1,0⟩
theorem TS:rP.mid:=by
 refine ⟨⟨(fun y hy=>by cases hy),?_⟩,?_⟩
 ·unfold rP i64;decide
 ·decide
theorem Ch.Kq {ξ:Nat} {a b c:World} {S:Nat->Prop} (h:Ch (NC ξ a) a b) (k:Ch S b c) (hS:∀i,i<a.heap.size->S i->NC ξ b i):Ch (NC ξ a) a c:=
 h.trans k fun i hi hs=>⟨(hS i hi hs).1,fun hc=>(hS i hi hs).2 (by
  obtain ⟨cs,t,z,e⟩:=hc;exact ⟨cs,t,z,(h.block i hi (fun hx=>hx.2 ⟨cs,t,z,e⟩)).trans e⟩)⟩
theorem UJ:fB 1 1 [rP]=0:=by kernel_rfl
theorem TV:GL 2 5=⟨#[98,47,50,46,53,46,49]⟩:=by kernel_rfl
theorem X_ (n:Nat) (w:World) (h:n<=9):Calls Tryz.prog 62 #[.int .i64 (n:Int)] w (oq n w):=(dec1 n h w).mono fun e w' h'=>⟨_,h'.1,by rw[show (⟨#[UInt8.ofNat (48+n)]⟩:ByteArray).size=1 from rfl];omega,fun _=>rfl,h'.2⟩
theorem je.made {ξ:Nat} {w:World} {a:Nat} {ag life:Int} {C:aV} {A:Option Addr} {k bb m:Nat} (h:ou ξ w a ag life C A k bb m 0 (fun _=>none) (fun _=>[]) (.slice none 0 0) (.slice none 0 0) 0 false (.slice none 0 0) 0):je ξ w a ag life C [] (fun _=>0) 0 false 0 (.slice none 0 0):=
 ⟨A,k,bb,m,0,_,_,h,Nat.zero_le _,World.ownsRow_nil _ _ _ _,(fun b hb=>(by cases hb)),fun _ _=>rfl⟩
theorem Gw (w:World):Calls Tryz.prog 6 #[] w fun e w'=>e=.returned (.bool true)/\Nx w w':=by
 go_enter Tryz.func6,Tryz.ntmps6;go_wp2_with fail;refine (wM _).mono ?_;rintro e w1 ⟨B,rfl,hr1,n1⟩;have N1:=ah n1;have Nc:=ah (fun w' (c:Nx w1 w')=>new_any 2 5 cP (some ⟨B,0,none⟩) 1 w' (hr1.nx (by decide) c) (by decide) (fun s hs=>by simp[cP]at hs;subst hs;decide));clear n1 hr1;go_wp2_with fail;refine (Nc.out _ (Ch.refl _ _)).mono ?_;rintro e w2 ⟨n2, -,h2⟩;obtain ⟨a,A,k,bb,m,rfl,ha,hM⟩:=h2 Qi;have N2:=ah (N1.out.tr n2);have hs1:=N1.out.size;have HS2:=ah (je.made (hM.base hs1));have ha2:a<w2.heap.size:=hM.blk.lt;have HM2:=ah hM;clear h2 n2 hM Nc;go_wp2_with fail;obtain ⟨gR,hg⟩:∃gR,w2.heap.size=gR:=⟨_,rfl⟩;have hl6:=Rd.Xn w2 ⟨rP,none,0⟩;have N23:=ah ((Ch.refl (fun _=>False) w2).alloc (.cells #[.int .i64 1,.int .i64 0,.slice none 0 0,.string ⟨#[]⟩,.int .i64 0,.bool false] 57));have hz:(w2.alloc (.cells #[.int .i64 1,.int .i64 0,.slice none 0 0,.string ⟨#[]⟩,.int .i64 0,.bool false] 57)).heap.size=w2.heap.size+1:=by simp
 unfold rP at hl6;simp only[List.length_nil]at hl6;obtain ⟨w3,hW⟩:∃w3,w2.alloc (.cells #[.int .i64 1,.int .i64 0,.slice none 0 0,.string ⟨#[]⟩,.int .i64 0,.bool false] 57)=w3:=⟨_,rfl⟩;rw[hW]at N23 hl6 hz;rw[hg]at hl6 hz ha2;simp only[hW,hg]
 have QV:Hid (({ maker:=1,seq:=1,A:=some ⟨gR,0,none⟩,c:=1,l:=[⟨rP,none,0⟩]}:dF).ok w3 (fun i=>i=gR)):=ah
  ⟨hl6,(fun x hx=>by
    rw[List.mem_singleton]at hx;subst hx;exact ⟨Rd.none_ _ _ _ _,Nat.le_refl _,by decide⟩),(fun x hx=>by
    rw[List.mem_singleton]at hx;subst hx;exact TS),(fun i hi=>by
    have hi:i<1:=hi;have e:i=0:=(by omega);subst e;exact ⟨rfl,rfl,rfl⟩),Nat.le_refl _,by show 1<=maxLen;decide⟩
 have HS3:=ah (HS2.out.nx N23.out);have Wy:=ah (lI HS3.out ⟨1,1,some ⟨gR,0,none⟩,1,[⟨rP,none,0⟩]⟩ QV.out (fun i e=>by omega) (by decide) (by decide) 0);clear hW hl6 HM2;refine Wy.out.mono ?_;rintro e w4 ⟨er,rfl,her,c4, -,h4⟩
 have he0:er=0:=her.2 ⟨UJ,rfl,fun s _=>by
  exact Nat.le_trans (List.length_filter_le _ _) (show (1:Nat)<=8 by decide)⟩
 subst he0;obtain ⟨b',wt', -, -,hbl,hS4, -⟩:=h4 rfl;rw[List.nil_append]at hS4
 have hrows:bQ [b']=[rP]:=by
  unfold bQ;rw[List.flatMap_cons,List.flatMap_nil,List.append_nil,hbl];rfl
 have HS4:=ah hS4;have C4:=ah c4;clear h4 hS4 c4 her hbl Wy;go_wp2_with fail;refine (flush_any HS4.out (by simp)).mono ?_;rintro e w5 ⟨rfl,hS5,c5⟩;have C5:=ah c5;have uZ:=ah (fun w' (c:Nx w5 w')=>AU (a:=a) (ag:=2) (life:=5) (M:=9) (K:=1) (fun n w h=>X_ n w h) (by decide) (by decide) (by decide) (hS5.nx c) (by simp) (by decide) (by rw[hrows];decide) (by rw[hrows];decide) (by rw[hrows];simp) 0 (Int.le_refl _));clear hS5 c5 HS4 HS3 QV;go_wp2_with fail;refine (uZ.out _ (by first|exact Ch.refl _ _|exact (Ch.refl _ _).drew)).mono ?_;rintro e w6 ⟨key,rfl,hk,c6,Aw,cw,r15,r16⟩;have hk2:=(hk (by decide) (by decide)).trans TV;subst hk2;have C6:=ah c6;rw[List.length_singleton]at r16;clear hk c6 uZ;unfold cO;go_wp2_with fail;have N7:=ah (show Nx w6 _ from (Ch.refl (fun _=>False) w6).alloc (.cells #[.int .i64 7,.string ⟨#[98,47,50,46,53,46,49]⟩,.slice none 0 0,.int .i64 0,.int .i64 0,.int .i64 0,.int .i64 0] 49));refine (z3d (n1:=0) (n2:=1) (by rw[N7.out.cell (World.block_lt_of_cell? w6 _ r15)];exact r15) (by rw[N7.out.cell (World.block_lt_of_cell? w6 _ r16)];exact r16) (by decide) (by decide)).mono ?_;rintro e w8 ⟨rfl,n8⟩
 have CT:=ah (show Ch (NC w.heap.size w) w w8 from by
  have h3:Ch (NC w.heap.size w) w w3:=Nx.nc (N2.out.tr N23.out)
  have h4:=h3.Kq C4.out fun i hi hs=>by
   rcases hs with hs|hs|hs
   ·exact hs
   ·omega
   ·cases hs
  have h5:=h4.Kq C5.out fun i hi hs=>by have e2:i=a:=hs;omega
  have h6:=h5.Kq C6.out fun i hi hs=>by
   rcases hs with hs|hs
   ·exact hs
   ·omega
  exact ((h6.tr N7.out).tr n8))
 clear n8;go_wp2_with fail;go_ret;exact ⟨rfl,CT.out.mono fun i hi h=>by have:=h.1;omega⟩
theorem rev2 {B b c d0 d1:Nat} {w:World} (o:w.ownsRow B 5 1 (.slice (some ⟨b,0,none⟩) 2 c) 2 (bl [d0,d1])):Calls Tryz.prog 99 #[.slice (some ⟨b,0,none⟩) 2 c] w fun e w'=>
 e=.returned (.tuple #[])/\Ch (· =b) w w'/\w'.ownsRow B 5 1 (.slice (some ⟨b,0,none⟩) 2 c) 2 (bl [d1,d0]):=by
 have HO:=ah o;clear o;go_enter Tryz.func99,Tryz.ntmps99;go_wp2_with fail;go_loopw [2,3] (fun i j wr=>(i=.int .i64 0/\j=.int .i64 1/\Hid (w=wr))∨(i=.int .i64 1/\j=.int .i64 0/\Hid (Ch (· =b) w wr)/\Hid (wr.ownsRow B 5 1 (.slice (some ⟨b,0,none⟩) 2 c) 2 (bl [d1,d0])))) (fun i _ _=>1-(intOf i).toNat)
 case atStart=>exact Or.inl ⟨rfl,rfl,ah rfl⟩
 case round=>
  rcases hrel with ⟨rfl,rfl,HW⟩|⟨rfl,rfl,HC,HO2⟩
  ·have hw:=HW.out
   subst hw;have h0:w.cell? ⟨b,0,none⟩=some (.int .u8 (d0:Int)):=HO.out.cellAt 0 (by omega);have h1:w.cell? ⟨b,1,none⟩=some (.int .u8 (d1:Int)):=HO.out.cellAt 1 (by omega);have f0:w.frozen? ⟨b,0,none⟩=false:=HO.out.frozenAt _;have f1:w.frozen? ⟨b,1,none⟩=false:=HO.out.frozenAt _;have O3:=ah (HO.out.stored 0 (.int .u8 (d1:Int))).1;have O4:=ah (show (((w.setCell ⟨b,0,none⟩ (.int .u8 (d1:Int))).setCell ⟨b,1,none⟩ (.int .u8 (d0:Int))).drew).ownsRow B 5 1 (.slice (some ⟨b,0,none⟩) 2 c) 2 (bl [d1,d0]) from z06 ((O3.out.stored 1 (.int .u8 (d0:Int))).1) (Ch.refl (fun _=>False) _).drew (fun _ _ hf=>hf));have C4:=ah (((Ch.refl (· =b) w).setCell (p:=⟨b,0,none⟩) (fun _=>rfl) (.int .u8 (d1:Int))).setCell (p:=⟨b,1,none⟩) (fun _=>rfl) (.int .u8 (d0:Int))).drew;have hb:=(HO.out.lt b rfl).2;go_wp2_with fail;go_region
   go_wp2_with fail;go_roundw
   case rel=>exact Or.inr ⟨rfl,rfl,C4,O4⟩
   case measure=>simp[intOf]
  ·go_wp2_with fail
   go_end0
   exact ⟨rfl,HC.out,HO2.out⟩
theorem dec2 (n:Nat) (hn:10<=n) (hn2:n<=99) (w:World):Calls Tryz.prog 62 #[.int .i64 (n:Int)] w (oq n w):=by
 obtain ⟨i0,hi0,hz0,hz1,hz2⟩:=info_parts Tryz.info5;obtain ⟨m,hm⟩:∃m,n / 10=m:=⟨_,rfl⟩;obtain ⟨r,hr⟩:∃r,n % 10=r:=⟨_,rfl⟩;have h1:(n:Int) % 10=(r:Int):=by omega
 have h1t:(n:Int).tmod 10=(r:Int):=by rw[Int.tmod_eq_emod_of_nonneg (by omega)];omega
 have h2:(n:Int) / 10=(m:Int):=by omega
 have h2t:(n:Int).tdiv 10=(m:Int):=by rw[Int.tdiv_eq_ediv_of_nonneg (by omega)];omega
 have hm1:1<=m:=by omega
 have hm9:m<=9:=by omega
 have hr9:r<=9:=by omega
 have hmn:m<n:=by omega
 have k1:(m:Int) % 10=(m:Int):=by omega
 have k1t:(m:Int).tmod 10=(m:Int):=by rw[Int.tmod_eq_emod_of_nonneg (by omega)];omega
 have k2:(m:Int) / 10=0:=by omega
 have k2t:(m:Int).tdiv 10=0:=by rw[Int.tdiv_eq_ediv_of_nonneg (by omega)];omega
 obtain ⟨d,hd⟩:∃d,48+r=d:=⟨_,rfl⟩;obtain ⟨f,hf⟩:∃f,48+m=f:=⟨_,rfl⟩;have h3:48+(r:Int)=(d:Int):=by omega
 have h4:IntKind.u8.wrap (d:Int)=(d:Int):=by simp[IntKind.wrap,IntKind.bits,IntKind.signed];omega
 have k3:48+(m:Int)=(f:Int):=by omega
 have k4:IntKind.u8.wrap (f:Int)=(f:Int):=by simp[IntKind.wrap,IntKind.bits,IntKind.signed];omega
 have hmz:((m:Int)==0)=false:=by rw[beq_eq_false_iff_ne];omega
 have hmz2:(m==0)=false:=by rw[beq_eq_false_iff_ne];omega
 have HN10:=ah hn;clear hd hf hm hr hn;go_enter Tryz.func62,Tryz.ntmps62;go_wp2_with fail;go_loopw [0,3] (fun i v wr=>(i=.int .i64 (n:Int)/\v=.slice none 0 0/\Hid (w=wr))∨(∃(g7 pK:Nat),i=.int .i64 (m:Int)/\v=.slice (some ⟨g7,0,none⟩) 1 pK/\Hid (wr.ownsRow w.heap.size 5 1 (.slice (some ⟨g7,0,none⟩) 1 pK) 1 (bl [d]))/\Hid (Nx w wr))) (fun i _ _=>(intOf i).toNat)
 case atStart=>exact Or.inl ⟨rfl,rfl,ah rfl⟩
 case round=>
  rcases hrel with ⟨rfl,rfl,HW⟩|⟨g7,pK,rfl,rfl,HO,HN⟩
  ·have hw:=HW.out
   subst hw;have HL:=ah (Rd.lit w #[.int .u8 (d:Int)] 5 (0,0));have HN1:=ah ((Ch.refl (fun _=>False) w).alloc (.cells #[.int .u8 (d:Int)] 5));go_wp2_with (at_builtin;refine z04 _ rfl (.tmp 4) (.tmp 9) _ rfl w.heap.size 5 i0 _ 1 1 Tryz.underlying47 hi0 hz0 hz1 hz2 rfl (by omega) (.slice none 0 0) 0 [] rfl (World.ownsRow_nil _ _ _ _) _ (some ⟨w.heap.size,0,none⟩) 1 1 (bl [d]) rfl HL.out (jk _) (by simp only[maxLen];omega) (by omega) (by simp) ?_;intro v7 w7 dn gr7 at7;obtain ⟨g7,pK,hv7, -, -⟩:=dn.form (by omega);subst hv7;have O7:=ah dn;have N7:=ah (HN1.out.trans ((Ch.refl (fun _=>False) _).grown gr7 (fun k hk _=>by simp[Value.ownBlock]at hk)) (fun _ _ h=>h));clear dn gr7 at7)
   go_roundw
   case rel=>exact Or.inr ⟨g7,pK,rfl,rfl,O7,N7⟩
   case measure=>simp[intOf];omega
  ·obtain ⟨w8,rfl⟩:∃w8:World,w8=wr:=⟨_,rfl⟩
   have HL:=ah (Rd.lit w8 #[.int .u8 (f:Int)] 5 (0,0));have HN1:=ah ((Ch.refl (fun _=>False) w8).alloc (.cells #[.int .u8 (f:Int)] 5));have hsz:=HN.out.size;have hlt:=(HO.out.lt g7 rfl);have HO2:=ah (HO.out.alloc (.cells #[.int .u8 (f:Int)] 5));go_wp2_with (at_builtin;refine z04 _ rfl (.tmp 4) (.tmp 9) _ rfl w.heap.size 5 i0 _ 1 1 Tryz.underlying47 hi0 hz0 hz1 hz2 rfl (by omega) (.slice (some ⟨g7,0,none⟩) 1 pK) 1 (bl [d]) rfl HO2.out _ (some ⟨w8.heap.size,0,none⟩) 1 1 (bl [f]) rfl HL.out (jk _) (by simp only[maxLen];omega) (by omega) (by simp;omega) ?_;intro v9 w9 jq gr9 at9;obtain ⟨g9,yF,hv9, -, -⟩:=jq.form (by omega);subst hv9;have O9:=ah (show w9.ownsRow w.heap.size 5 1 (.slice (some ⟨g9,0,none⟩) 2 yF) 2 (bl [d,f]) from jq);have N9:=ah (((HN.out.tr HN1.out).trans ((Ch.refl (fun k=>w.heap.size<=k) _).grown gr9 (fun k hk _=>(HO2.out.lt k hk).1)) (fun i hi hs=>absurd hs (by omega)):Nx w w9));clear jq gr9 at9)
   refine (rev2 O9.out).mono ?_;rintro e w10 ⟨rfl,c10,o10⟩;have hcv:=Ze (P:=Tryz.prog) w10 47 9 5 Tryz.underlying47 Tryz.underlying5 Tryz.underlying9 _ _ _ yF _ (Rd.bW o10);have N10:=ah (show Nx w w10 from N9.out.trans c10 fun i hi e=>by have e2:i=g9:=e;have:=(O9.out.lt g9 rfl).1;omega);clear c10 o10;go_wp2_with fail;go_ret;exact ⟨_,rfl,by rw[ZK];simp,fun h=>by have:=HN10.out;omega,N10.out⟩
theorem XZ (n:Nat) (w:World) (h:n<=99):Calls Tryz.prog 62 #[.int .i64 (n:Int)] w (oq n w):=by
 by_cases h9:n<=9
 ·exact X_ n w h9
 ·exact dec2 n (by omega) h w
end Go.Proofs.YtdbfejfhpkakhaaGreat
