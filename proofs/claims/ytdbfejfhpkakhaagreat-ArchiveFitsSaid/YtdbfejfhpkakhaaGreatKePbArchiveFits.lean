/- ArchiveFits: of any configuration it is told whether it fits, and an archiver is made just then. Conditions: none. -/
import Derived.Test.YtdbfejfhpkakhaaGreatKeQ36
import Derived.Test.YtdbfejfhpkakhaaGreatKePbArR
import Derived.Test.YtdbfejfhpkakhaaGreatKeQ5
import Derived.Shelf.Vars
import Derived.SliceStrings
import Derived.Deep.RegionHeld3
import Derived.StillTailTactics
set_option maxRecDepth 100000
set_option maxHeartbeats 16000000
set_option linter.unusedVariables false
namespace Go.Proofs.YtdbfejfhpkakhaaGreat.ArchiveFits
open Go.RowKit Go.Proofs.YtdbfejfhpkakhaaGreat
theorem walk (ag life:Int) (C:aW) (A:Option Addr) (q:Nat) (w:World) (hr:Rd w (· <w.heap.size) 1 A C.aK.length (dB C.aK)) (hn:C.aK.length<=9223372036854775807) (hs:∀s∈C.aK,s.size<=9223372036854775807):
 Calls Tryz.prog 3 #[f_ C A q,.int .i64 ag,.int .i64 life] w fun e w'=>e=.returned (.bool true)/\Nx w w':=by
 have HF:=ah (fun w' (n:Nx w w')=>fits_any C A q w' (hr.nx (by decide) n) hn hs);have HF9:=ah (fun w' (n:Nx w w')=>mV C A q w' (hr.nx (by decide) n) hn hs);have Gt:=ah (fun w' (n:Nx w w')=>new_any ag life C A q w' (hr.nx (by decide) n) hn hs);have HN9:=ah (fun w' (n:Nx w w')=>EG ag life C A q w' (hr.nx (by decide) n) hn hs);clear hr hs;generalize gQ C=fb at *;have HQO:∃qo,okA ag life C=qo:=⟨_,rfl⟩;obtain ⟨qo,hqo⟩:=HQO;rw[hqo]at HN9;obtain ⟨win,fD,gr,bu,fu,age,pc,tr,wa,sm,mo,gc⟩:=C;unfold f_ at *;simp only at *;obtain ⟨N,hN⟩:∃N,fD.length=N:=⟨_,rfl⟩;have HQ:=ah hqo;rw[hN]at HF HF9 Gt HN9 hn ⊢;clear hN hqo;have HB:=ah (aG.new w 24 #[.int .i64 win,.slice A N q,.int .i64 gr,.int .i64 bu,.int .i64 fu,.int .i64 age,.int .i64 pc,.int .i64 tr,.int .i64 wa,.int .i64 sm,.int .i64 mo,.int .i64 gc]);have NA:=ah ((Ch.refl (fun _=>False) w).alloc (.cells #[.int .i64 win,.slice A N q,.int .i64 gr,.int .i64 bu,.int .i64 fu,.int .i64 age,.int .i64 pc,.int .i64 tr,.int .i64 wa,.int .i64 sm,.int .i64 mo,.int .i64 gc] 24));obtain ⟨w1,hW⟩:∃w1,w.alloc (.cells #[.int .i64 win,.slice A N q,.int .i64 gr,.int .i64 bu,.int .i64 fu,.int .i64 age,.int .i64 pc,.int .i64 tr,.int .i64 wa,.int .i64 sm,.int .i64 mo,.int .i64 gc] 24)=w1:=⟨_,rfl⟩;obtain ⟨g,hg⟩:∃g,w.heap.size=g:=⟨_,rfl⟩;rw[hW]at HB NA;rw[hg]at HB;have HL:=ah (fun w=>EN w);go_enter Tryz.func3,Tryz.ntmps3;go_wp2_with fail;clear hW hg;refine (HL.out _).mono ?_;rintro e w2 ⟨rfl,n2⟩;have N2:=ah (show Nx w1 w2 from by first|exact n2|exact (Ch.refl _ _).drew.tr n2);clear n2;have B2:=ah (HB.out.nx N2.out);have NC2:=ah (show Nx w w2 from NA.out.tr N2.out);have d1:w2.cell? ⟨g,1,none⟩=some (.slice A N q):=B2.out.cell 1;by_cases h20:20<N
 ·go_wp2_with fail
  refine (HL.out _).mono ?_;rintro e w3 ⟨rfl,n3⟩;have N3:=ah (show Nx w2 w3 from by first|exact n3|exact (Ch.refl _ _).drew.tr n3);clear n3;go_wp2_with fail;go_ret;exact ⟨rfl,NC2.out.tr N3.out⟩
 ·have HKA:=ah (fun w' (c:Nx w2 w')=>(⟨(B2.out.nx c).cell 0,(B2.out.nx c).cell 1,(B2.out.nx c).cell 2,(B2.out.nx c).cell 3,(B2.out.nx c).cell 4,(B2.out.nx c).cell 5,(B2.out.nx c).cell 6,(B2.out.nx c).cell 7,(B2.out.nx c).cell 8,(B2.out.nx c).cell 9,(B2.out.nx c).cell 10,(B2.out.nx c).cell 11⟩:w'.cell? ⟨g,0,none⟩=some (.int .i64 win)/\w'.cell? ⟨g,1,none⟩=some (.slice A N q)/\w'.cell? ⟨g,2,none⟩=some (.int .i64 gr)/\w'.cell? ⟨g,3,none⟩=some (.int .i64 bu)/\w'.cell? ⟨g,4,none⟩=some (.int .i64 fu)/\w'.cell? ⟨g,5,none⟩=some (.int .i64 age)/\w'.cell? ⟨g,6,none⟩=some (.int .i64 pc)/\w'.cell? ⟨g,7,none⟩=some (.int .i64 tr)/\w'.cell? ⟨g,8,none⟩=some (.int .i64 wa)/\w'.cell? ⟨g,9,none⟩=some (.int .i64 sm)/\w'.cell? ⟨g,10,none⟩=some (.int .i64 mo)/\w'.cell? ⟨g,11,none⟩=some (.int .i64 gc)))
  obtain ⟨q0,q1,q2,q3,q4,q5,q6,q7,q8,q9,q10,q11⟩:=HKA.out w2 (Ch.refl _ w2);clear d1;go_wp2_with fail;refine (HN9.out _ (by first|exact NC2.out|exact NC2.out.drew)).mono ?_;rintro e w3 ⟨⟨v9,rfl⟩,n3⟩;have N3:=ah (show Nx w2 w3 from by first|exact n3|exact (Ch.refl _ _).drew.tr n3);clear n3 q0 q1 q2 q3 q4 q5 q6 q7 q8 q9 q10 q11;have NC3:=ah (NC2.out.tr N3.out);have HK:=ah (fun w' (c:Nx w3 w')=>HKA.out w' (N3.out.tr c));go_wp2_with fail;cases qo
  ·refine uI (fun w'=>w'.cell? ⟨g,0,none⟩=some (.int .i64 win)/\w'.cell? ⟨g,1,none⟩=some (.slice A N q)/\w'.cell? ⟨g,2,none⟩=some (.int .i64 gr)/\w'.cell? ⟨g,3,none⟩=some (.int .i64 bu)/\w'.cell? ⟨g,4,none⟩=some (.int .i64 fu)/\w'.cell? ⟨g,5,none⟩=some (.int .i64 age)/\w'.cell? ⟨g,6,none⟩=some (.int .i64 pc)/\w'.cell? ⟨g,7,none⟩=some (.int .i64 tr)/\w'.cell? ⟨g,8,none⟩=some (.int .i64 wa)/\w'.cell? ⟨g,9,none⟩=some (.int .i64 sm)/\w'.cell? ⟨g,10,none⟩=some (.int .i64 mo)/\w'.cell? ⟨g,11,none⟩=some (.int .i64 gc)) (fun _=>false) rfl (HK.out w3.drew (Ch.refl _ w3).drew) (fun hS0=>?_)
   try simp only[Act.put,aB,ay,aA]
   refine z00 (i:=0) (oi:=_) (v:=?_) rfl (fun _ _ _ h=>h) (Or.inl ⟨by rfl,?_⟩) ?_;rotate_left
   ·(intro w hSw;(try dsimp only at hSw);go_split_ands;go_simp;try with_reducible rfl)
   simp only[List.getElem_toArray,List.getElem_cons_zero,Act.put,aB,ay,aA];refine z00 (i:=2) (oi:=_) (v:=?_) rfl (fun _ _ _ h=>h) (Or.inl ⟨by rfl,?_⟩) ?_;rotate_left
   ·(intro w hSw;(try dsimp only at hSw);go_split_ands;go_simp;try with_reducible rfl)
   simp only[List.getElem_toArray,List.getElem_cons_zero,List.getElem_cons_succ,Act.put,aB,ay,aA];refine z02 (rs:=[1]) (by kernel_rfl) (by simp) (z01.cons (o:=_) rfl (fun K hK=>?_) z01.nil);go_simp;refine (HF.out _ (NC3.out.tr (Ch.refl _ w3).drew)).mono ?_;rintro e w4 ⟨rfl,n0⟩;have N4:=ah ((Ch.refl (fun _=>False) w3).drew.tr n0);clear n0;go_wp2_with fail;refine hK.out _ _ (fun _=>HK.out _ N4.out) (fun aj=>?_);have hHeld:=aj (by decide);clear hK K aj
   try simp only[Act.put,aB,ay,aA]
   refine z02 (rs:=[3]) (by kernel_rfl) (by simp) (z01.cons (o:=_) rfl (fun K hK=>?_) z01.nil);go_simp;refine (HF9.out _ (NC3.out.tr N4.out)).mono ?_;rintro e w5 ⟨rfl,n0⟩;have N5:=ah (N4.out.tr n0);clear n0;go_wp2_with fail;refine hK.out _ _ (fun _=>HK.out _ N5.out) (fun aj=>?_);have hHeld:=aj (by decide);clear hK K aj
   try simp only[Act.put,aB,ay,aA]
   refine z00 (i:=4) (oi:=_) (v:=?_) rfl (fun _ _ _ h=>h) (Or.inl ⟨by rfl,?_⟩) ?_;rotate_left
   ·(intro w hSw;(try dsimp only at hSw);go_split_ands;go_simp;try with_reducible rfl)
   simp only[List.getElem_toArray,List.getElem_cons_zero,List.getElem_cons_succ,Act.put,aB,ay,aA]
   try simp only[beq_self_eq_true]
   refine z00 (i:=5) (oi:=_) (v:=?_) rfl (fun _ _ _ h=>h) (Or.inl ⟨by rfl,?_⟩) ?_;rotate_left
   ·(intro w hSw;(try dsimp only at hSw);go_split_ands;go_simp;try with_reducible rfl)
   simp only[List.getElem_toArray,List.getElem_cons_zero,List.getElem_cons_succ,Act.put,aB,ay,aA];refine z00 (i:=6) (oi:=_) (v:=?_) rfl (fun _ _ _ h=>h) (Or.inl ⟨by rfl,?_⟩) ?_;rotate_left
   ·(intro w hSw;(try dsimp only at hSw);go_split_ands;go_simp;try with_reducible rfl)
   simp only[List.getElem_toArray,List.getElem_cons_zero,List.getElem_cons_succ,Act.put,aB,ay,aA];refine z00 (i:=7) (oi:=_) (v:=?_) rfl (fun _ _ _ h=>h) (Or.inl ⟨by rfl,?_⟩) ?_;rotate_left
   ·(intro w hSw;(try dsimp only at hSw);go_split_ands;go_simp;try with_reducible rfl)
   simp only[List.getElem_toArray,List.getElem_cons_zero,List.getElem_cons_succ,Act.put,aB,ay,aA];refine z00 (i:=8) (oi:=_) (v:=?_) rfl (fun _ _ _ h=>h) (Or.inl ⟨by rfl,?_⟩) ?_;rotate_left
   ·(intro w hSw;(try dsimp only at hSw);go_split_ands;go_simp;try with_reducible rfl)
   simp only[List.getElem_toArray,List.getElem_cons_zero,List.getElem_cons_succ,Act.put,aB,ay,aA];refine z00 (i:=11) (oi:=_) (v:=?_) rfl (fun _ _ _ h=>h) (Or.inl ⟨by rfl,?_⟩) ?_;rotate_left
   ·(intro w hSw;(try dsimp only at hSw);go_split_ands;go_simp;try with_reducible rfl)
   simp only[List.getElem_toArray,List.getElem_cons_zero,List.getElem_cons_succ,Act.put,aB,ay,aA];refine z02 (rs:=[9]) (by kernel_rfl) (by simp) (z01.cons (o:=_) rfl (fun K hK=>?_) z01.nil);go_simp;refine (Gt.out _ (NC3.out.tr N5.out)).mono ?_;rintro e w6 ⟨n0,hnw, -⟩;have N6:=ah (N5.out.tr n0);clear n0;have h0:=hnw HQ.out;subst h0;go_wp2_with fail;refine hK.out _ _ (fun _=>HK.out _ N6.out) (fun aj=>?_);have hHeld:=aj (by decide);clear hK K aj
   try simp only[Act.put,aB,ay,aA]
   refine z00 (i:=10) (oi:=_) (v:=?_) rfl (fun _ _ _ h=>h) (Or.inl ⟨by rfl,?_⟩) ?_;rotate_left
   ·(intro w hSw;(try dsimp only at hSw);go_split_ands;go_simp;try with_reducible rfl)
   simp only[List.getElem_toArray,List.getElem_cons_zero,List.getElem_cons_succ,Act.put,aB,ay,aA];refine z00 (i:=12) (oi:=_) (v:=?_) rfl (fun _ _ _ h=>h) (Or.inl ⟨by rfl,?_⟩) ?_;rotate_left
   ·(intro w hSw;(try dsimp only at hSw);go_split_ands;go_simp;try with_reducible rfl)
   simp only[List.getElem_toArray,List.getElem_cons_zero,List.getElem_cons_succ,Act.put,aB,ay,aA];refine z00 (i:=13) (oi:=_) (v:=?_) rfl (fun _ _ _ h=>h) (Or.inl ⟨by rfl,?_⟩) ?_;rotate_left
   ·(intro w hSw;(try dsimp only at hSw);go_split_ands;go_simp;try with_reducible rfl)
   simp only[List.getElem_toArray,List.getElem_cons_zero,List.getElem_cons_succ,Act.put,aB,ay,aA];refine z00 (i:=14) (oi:=_) (v:=?_) rfl (fun _ _ _ h=>h) (Or.inl ⟨by rfl,?_⟩) ?_;rotate_left
   ·(intro w hSw;(try dsimp only at hSw);go_split_ands;go_simp;try with_reducible rfl)
   simp only[List.getElem_toArray,List.getElem_cons_zero,List.getElem_cons_succ,Act.put,aB,ay,aA];refine z08 (by kernel_rfl) ?_ _;go_wp2_with fail;go_ret;exact ⟨rfl,NC3.out.tr N6.out⟩
  ·refine uI (fun w'=>w'.cell? ⟨g,0,none⟩=some (.int .i64 win)/\w'.cell? ⟨g,1,none⟩=some (.slice A N q)/\w'.cell? ⟨g,2,none⟩=some (.int .i64 gr)/\w'.cell? ⟨g,3,none⟩=some (.int .i64 bu)/\w'.cell? ⟨g,4,none⟩=some (.int .i64 fu)/\w'.cell? ⟨g,5,none⟩=some (.int .i64 age)/\w'.cell? ⟨g,6,none⟩=some (.int .i64 pc)/\w'.cell? ⟨g,7,none⟩=some (.int .i64 tr)/\w'.cell? ⟨g,8,none⟩=some (.int .i64 wa)/\w'.cell? ⟨g,9,none⟩=some (.int .i64 sm)/\w'.cell? ⟨g,10,none⟩=some (.int .i64 mo)/\w'.cell? ⟨g,11,none⟩=some (.int .i64 gc)) (fun _=>false) rfl (HK.out w3.drew (Ch.refl _ w3).drew) (fun hS0=>?_)
   try simp only[Act.put,aB,ay,aA]
   refine z00 (i:=0) (oi:=_) (v:=?_) rfl (fun _ _ _ h=>h) (Or.inl ⟨by rfl,?_⟩) ?_;rotate_left
   ·(intro w hSw;(try dsimp only at hSw);go_split_ands;go_simp;try with_reducible rfl)
   simp only[List.getElem_toArray,List.getElem_cons_zero,Act.put,aB,ay,aA];refine z00 (i:=2) (oi:=_) (v:=?_) rfl (fun _ _ _ h=>h) (Or.inl ⟨by rfl,?_⟩) ?_;rotate_left
   ·(intro w hSw;(try dsimp only at hSw);go_split_ands;go_simp;try with_reducible rfl)
   simp only[List.getElem_toArray,List.getElem_cons_zero,List.getElem_cons_succ,Act.put,aB,ay,aA];refine z02 (rs:=[1]) (by kernel_rfl) (by simp) (z01.cons (o:=_) rfl (fun K hK=>?_) z01.nil);go_simp;refine (HF.out _ (NC3.out.tr (Ch.refl _ w3).drew)).mono ?_;rintro e w4 ⟨rfl,n0⟩;have N4:=ah ((Ch.refl (fun _=>False) w3).drew.tr n0);clear n0;go_wp2_with fail;refine hK.out _ _ (fun _=>HK.out _ N4.out) (fun aj=>?_);have hHeld:=aj (by decide);clear hK K aj
   try simp only[Act.put,aB,ay,aA]
   refine z02 (rs:=[3]) (by kernel_rfl) (by simp) (z01.cons (o:=_) rfl (fun K hK=>?_) z01.nil);go_simp;refine (HF9.out _ (NC3.out.tr N4.out)).mono ?_;rintro e w5 ⟨rfl,n0⟩;have N5:=ah (N4.out.tr n0);clear n0;go_wp2_with fail;refine hK.out _ _ (fun _=>HK.out _ N5.out) (fun aj=>?_);have hHeld:=aj (by decide);clear hK K aj
   try simp only[Act.put,aB,ay,aA]
   refine z00 (i:=4) (oi:=_) (v:=?_) rfl (fun _ _ _ h=>h) (Or.inl ⟨by rfl,?_⟩) ?_;rotate_left
   ·(intro w hSw;(try dsimp only at hSw);go_split_ands;go_simp;try with_reducible rfl)
   simp only[List.getElem_toArray,List.getElem_cons_zero,List.getElem_cons_succ,Act.put,aB,ay,aA]
   try simp only[beq_self_eq_true]
   refine z00 (i:=5) (oi:=_) (v:=?_) rfl (fun _ _ _ h=>h) (Or.inl ⟨by rfl,?_⟩) ?_;rotate_left
   ·(intro w hSw;(try dsimp only at hSw);go_split_ands;go_simp;try with_reducible rfl)
   simp only[List.getElem_toArray,List.getElem_cons_zero,List.getElem_cons_succ,Act.put,aB,ay,aA];refine z00 (i:=6) (oi:=_) (v:=?_) rfl (fun _ _ _ h=>h) (Or.inl ⟨by rfl,?_⟩) ?_;rotate_left
   ·(intro w hSw;(try dsimp only at hSw);go_split_ands;go_simp;try with_reducible rfl)
   simp only[List.getElem_toArray,List.getElem_cons_zero,List.getElem_cons_succ,Act.put,aB,ay,aA];refine z00 (i:=7) (oi:=_) (v:=?_) rfl (fun _ _ _ h=>h) (Or.inl ⟨by rfl,?_⟩) ?_;rotate_left
   ·(intro w hSw;(try dsimp only at hSw);go_split_ands;go_simp;try with_reducible rfl)
   simp only[List.getElem_toArray,List.getElem_cons_zero,List.getElem_cons_succ,Act.put,aB,ay,aA];refine z00 (i:=8) (oi:=_) (v:=?_) rfl (fun _ _ _ h=>h) (Or.inl ⟨by rfl,?_⟩) ?_;rotate_left
   ·(intro w hSw;(try dsimp only at hSw);go_split_ands;go_simp;try with_reducible rfl)
   simp only[List.getElem_toArray,List.getElem_cons_zero,List.getElem_cons_succ,Act.put,aB,ay,aA];refine z00 (i:=11) (oi:=_) (v:=?_) rfl (fun _ _ _ h=>h) (Or.inl ⟨by rfl,?_⟩) ?_;rotate_left
   ·(intro w hSw;(try dsimp only at hSw);go_split_ands;go_simp;try with_reducible rfl)
   simp only[List.getElem_toArray,List.getElem_cons_zero,List.getElem_cons_succ,Act.put,aB,ay,aA];refine z02 (rs:=[9]) (by kernel_rfl) (by simp) (z01.cons (o:=_) rfl (fun K hK=>?_) z01.nil);go_simp;refine (Gt.out _ (NC3.out.tr N5.out)).mono ?_;rintro e w6 ⟨n0, -,hnw⟩;have N6:=ah (N5.out.tr n0);clear n0;obtain ⟨a1,A1,k1,b1,m1,rfl, -, -⟩:=hnw HQ.out;go_wp2_with fail;refine hK.out _ _ (fun _=>HK.out _ N6.out) (fun aj=>?_);have hHeld:=aj (by decide);clear hK K aj
   try simp only[Act.put,aB,ay,aA]
   refine z00 (i:=10) (oi:=_) (v:=?_) rfl (fun _ _ _ h=>h) (Or.inl ⟨by rfl,?_⟩) ?_;rotate_left
   ·(intro w hSw;(try dsimp only at hSw);go_split_ands;go_simp;try with_reducible rfl)
   simp only[List.getElem_toArray,List.getElem_cons_zero,List.getElem_cons_succ,Act.put,aB,ay,aA];refine z00 (i:=12) (oi:=_) (v:=?_) rfl (fun _ _ _ h=>h) (Or.inl ⟨by rfl,?_⟩) ?_;rotate_left
   ·(intro w hSw;(try dsimp only at hSw);go_split_ands;go_simp;try with_reducible rfl)
   simp only[List.getElem_toArray,List.getElem_cons_zero,List.getElem_cons_succ,Act.put,aB,ay,aA];refine z00 (i:=13) (oi:=_) (v:=?_) rfl (fun _ _ _ h=>h) (Or.inl ⟨by rfl,?_⟩) ?_;rotate_left
   ·(intro w hSw;(try dsimp only at hSw);go_split_ands;go_simp;try with_reducible rfl)
   simp only[List.getElem_toArray,List.getElem_cons_zero,List.getElem_cons_succ,Act.put,aB,ay,aA];refine z00 (i:=14) (oi:=_) (v:=?_) rfl (fun _ _ _ h=>h) (Or.inl ⟨by rfl,?_⟩) ?_;rotate_left
   ·(intro w hSw;(try dsimp only at hSw);go_split_ands;go_simp;try with_reducible rfl)
   simp only[List.getElem_toArray,List.getElem_cons_zero,List.getElem_cons_succ,Act.put,aB,ay,aA];refine z08 (by kernel_rfl) ?_ _;go_wp2_with fail;go_ret;exact ⟨rfl,NC3.out.tr N6.out⟩
section
open Go.ChangeShapes Go.WideShapes Go.ChangeAt Go.Deep
variable {H : Type} {enc : TypeId × Value → H}
theorem Ey {P:Program} {w:World} {base:Nat} {spare:Nat->Bool} {held:Bool} {r:Reach} {b0:Nat} {t:TypeId} {fs:Array Field} {v:Value} {d:DataW H} {p:List MemPlace} (hs:P.underlying t=some (.struct fs)) (hone:oneCellFields P fs=true) (hC:P.cellsOf t=fs.size)
 (hv:Value.okWide P w r b0 t v) (h:DataW.Trod enc P w base spare held t v d p):
 ∃(cs:List Value) (ys:List (DataW H×List MemPlace)) (n:Nat),v=.agg cs.toArray/\cs.length=fs.size/\ys.length=fs.size/\
  ∀(j:Nat) (f:Field) (c:Value),fs[j]?=some f->cs[j]?=some c->∃y,ys[j]?=some y/\DataW.trod enc P w base spare held n f.type [c]=some y:=by
 obtain ⟨cs,rfl,hsz⟩:=okWide_struct hs hv;obtain ⟨l⟩:=cs;obtain ⟨fuel,hf⟩:=h;obtain ⟨xs,n,_,hx,hlen,hyl,hg⟩:=DataW.trod_struct hs hf;have hl:l.length=fs.size:=hsz.trans hC;refine ⟨l,xs,n,rfl,hl,hyl,fun j f c hj hc=>?_⟩;obtain ⟨ho,hk⟩:=hone_of hone j f hj;have hjl:j<fs.size:=(Array.getElem?_eq_some_iff.1 hj).1;have hys:xs[j]?=some (xs[j]'(by omega)):=List.getElem?_eq_getElem (by omega);have h1:=hg j f hj
 have hcj:l[j]'(by omega)=c:=by
  rw[List.getElem?_eq_getElem (by omega)]at hc;injection hc
 have hone':(l.drop j).take 1=[c]:=by
  rw[List.drop_eq_getElem_cons (by omega),hcj];rfl
 rw[ho,hk]at h1;refine ⟨_,hys,?_⟩;rw[←hys,←h1,←hone'];simp[Value.cells]
variable {W : World} {args : Array Value} {ds : List (DataW H)} {ps : List MemPlace}
theorem rW {n:Nat} {v:Value} {y:DataW H×List MemPlace} (h:DataW.trod enc Tryz.prog W 0 (fun _=>true) true n 22 [v]=some y):
 ∃(A:Option Addr) (c:Nat) (l:List ByteArray),v=.slice A l.length c/\Rd W (· <W.heap.size) 1 A l.length (dB l)/\(∀s∈l,s.size<=maxLen)/\l.length<=c/\c<=maxLen:=by
 rcases open_strings Tryz.underlying22 Tryz.underlying9 (by kernel_rfl) h with ⟨hcs,hx⟩|⟨a,len,cap,ss,hcs,_,hl,hm,hz,hx,hcell,hsz⟩
 ·simp at hcs
  subst hcs;exact ⟨none,0,[],rfl,Rd.none_ _ _ _ _,(fun s hs=>by cases hs),Nat.le_refl _,by simp[maxLen]⟩
 ·simp at hcs
  subst hcs;simp only[if_true]at hz;have hlen:(ss.take len).length=len:=by rw[List.length_take];omega
  refine ⟨some a,cap,ss.take len,by rw[hlen],⟨by simp[dB],fun hn=>⟨a,rfl,?_,fun j u hu=>?_⟩⟩,fun s hs=>hsz s (List.mem_of_mem_take hs),by omega,hm⟩
  ·have:=World.block_lt_of_cell? W _ (hcell 0 (by omega))
   rwa [yA]at this
  ·have hj:j<len:=by
    rcases Nat.lt_or_ge j len with hj|hj
    ·exact hj
    ·rw[List.getElem?_eq_none (by simp[dB];omega)]at hu;cases hu
   rw[hcell j (by omega),←hu];unfold dB;rw[List.getElem?_map,List.getElem?_take,if_pos hj,List.getElem?_eq_getElem (by omega)];simp[List.getD,List.getElem?_eq_getElem (show j<ss.length by omega)]
theorem Told.conf {ts:List TypeId} (h:Told enc (24::ts) W args ds ps):∃(C:aW) (A:Option Addr) (c:Nat) (vs:List Value) (ds':List (DataW H)) (q:List MemPlace),args=(f_ C A c::vs).toArray/\
 Rd W (· <W.heap.size) 1 A C.aK.length (dB C.aK)/\(∀s∈C.aK,s.size<=maxLen)/\C.aK.length<=c/\c<=maxLen/\Told enc ts W vs.toArray ds' q:=by
 obtain ⟨v,vs,d,ds',p,q,rfl,rfl,h0,⟨b,ho⟩,hlt,hw,h'⟩:=h.cons;obtain ⟨cs,ys,n,rfl,hcl,hyl,hg⟩:=Ey Tryz.underlying24 (by kernel_rfl) (by kernel_rfl) ho h0;match cs,hcl with
 |[c0,c1,c2,c3,c4,c5,c6,c7,c8,c9,c10,c11],_=>
  obtain ⟨_,_,t0⟩:=hg 0 _ c0 rfl rfl;obtain ⟨_,_,t1⟩:=hg 1 _ c1 rfl rfl;obtain ⟨_,_,t2⟩:=hg 2 _ c2 rfl rfl;obtain ⟨_,_,t3⟩:=hg 3 _ c3 rfl rfl;obtain ⟨_,_,t4⟩:=hg 4 _ c4 rfl rfl;obtain ⟨_,_,t5⟩:=hg 5 _ c5 rfl rfl;obtain ⟨_,_,t6⟩:=hg 6 _ c6 rfl rfl;obtain ⟨_,_,t7⟩:=hg 7 _ c7 rfl rfl;obtain ⟨_,_,t8⟩:=hg 8 _ c8 rfl rfl;obtain ⟨_,_,t9⟩:=hg 9 _ c9 rfl rfl;obtain ⟨_,_,t10⟩:=hg 10 _ c10 rfl rfl;obtain ⟨_,_,t11⟩:=hg 11 _ c11 rfl rfl;obtain ⟨A,c,l,rfl,h1,h2,h3,h4⟩:=rW t1;obtain ⟨a0,rfl,_⟩:=Gx Tryz.underlying3 t0;obtain ⟨a2,rfl,_⟩:=Gx Tryz.underlying3 t2;obtain ⟨a3,rfl,_⟩:=Gx Tryz.underlying3 t3;obtain ⟨a4,rfl,_⟩:=Gx Tryz.underlying3 t4;obtain ⟨a5,rfl,_⟩:=Gx Tryz.underlying3 t5;obtain ⟨a6,rfl,_⟩:=Gx Tryz.underlying3 t6;obtain ⟨a7,rfl,_⟩:=Gx Tryz.underlying3 t7;obtain ⟨a8,rfl,_⟩:=Gx Tryz.underlying3 t8;obtain ⟨a9,rfl,_⟩:=Gx Tryz.underlying3 t9;obtain ⟨a10,rfl,_⟩:=Gx Tryz.underlying3 t10;obtain ⟨a11,rfl,_⟩:=Gx Tryz.underlying3 t11;exact ⟨⟨a0,l,a2,a3,a4,a5,a6,a7,a8,a9,a10,a11⟩,A,c,vs,ds',q,rfl,h1,h2,h3,h4,h'⟩
end
theorem walks:Walks 3 Tryz.f3:=by
 intro H enc W args ds ps h;rw[Tryz.params3]at h;obtain ⟨C,A,c,vs,ds1,p1,rfl,hr,hs,hc,hc2,h1⟩:=Told.conf h;obtain ⟨ag,vs2,ds2,p2,e2,i2,h2⟩:=h1.int;obtain ⟨life,vs3,ds3,p3,e3,i3,h3⟩:=h2.int;have e1:=h3.nil;simp at e1 e2 e3;subst e1;subst e3;subst e2;unfold maxLen at hc2 hs;exact walk ag life C A c W hr (by omega) (fun s h=>Nat.le_trans (hs s h) (by decide))
theorem proved:Rows.ArchiveFitsSaid:=
 OpenClaim.holds_of_wide 3 Tryz.f3 rfl rfl rfl rfl rfl rfl rfl ⟨rfl,rfl,rfl,rfl,rfl⟩ rfl rfl rfl rfl rfl (by as_aux_lemma=>kernel_rfl) Tryz.func3 (by as_aux_lemma=>kernel_rfl)
  (of_decide_eq_true (by as_aux_lemma=>kernel_rfl)) (by as_aux_lemma=>(unfold Func.isWrapper;first|(rw[if_pos (by decide+kernel)];kernel_rfl)|(rw[if_neg (by decide+kernel)];exact ⟨rfl,rfl⟩)))
  (fun os started H enc _=>law_lifted (s:=Rows.archiveFitsSpec) Tryz.func3 (by as_aux_lemma=>kernel_rfl) rfl rfl
    (by intro H ds h;rw[Tryz.params3]at h;match ds,h with|[d1,d2,d3],_=>rfl)
    (by rw[Tryz.params3];intro t ht;simp at ht;rcases ht with rfl|rfl<;>exact ⟨by kernel_rfl,of_decide_eq_true (by as_aux_lemma=>kernel_rfl)⟩) walks os started H enc
    (ChangeSpec.witness6 (enc:=enc) (C:=Tryz.checked) false ⟨#[], #[.agg #[.int .i64 0,.slice none 0 0,.int .i64 0,.int .i64 0,.int .i64 0,.int .i64 0,.int .i64 0,.int .i64 0,.int .i64 0,.int .i64 0,.int .i64 0,.int .i64 0],.int .i64 0,.int .i64 0],[]⟩ 8 (by as_aux_lemma=>kernel_rfl) (by as_aux_lemma=>kernel_rfl) (by as_aux_lemma=>kernel_rfl) (by as_aux_lemma=>kernel_rfl)))
end Go.Proofs.YtdbfejfhpkakhaaGreat.ArchiveFits
