/- Contracts and plain laws that the last text rests on. Conditions: each theorem states its own. -/
import Derived.Test.YtpakjclpjcngmaaGreatKbQ3
import Derived.Test.YtpakjclpjcngmaaGreatKbPcLaw
import Derived.Test.YtpakjclpjcngmaaGreatKbQ1
import Derived.Deep.RegionLaw
import Derived.Deep.DeepCutAuto
import Derived.Deep.DrawnRows
import Derived.Laws.MakeOwn
import Derived.BigRegion
set_option maxRecDepth 100000
set_option linter.unusedVariables false
namespace Go.Proofs.YtpakjclpjcngmaaGreat
open Go.RowKit
theorem Tryz.info3:(Tryz.prog.info? 3).map (fun i=>(i.zero,i.size,i.bytes))=some (some (.int .i64 0),1,8):=by kernel_rfl
theorem rD {P:Program} (t e:TypeId) (i:TypeInfo) (z:Value) (ht:P.underlying t=some (.slice e)) (hi:P.info? e=some i) (hz:i.zero=some z)
 (kl kc:IntKind) (n c:Nat) (hnc:n<=c) (hbytes:i.bytes * c<=281474976710656) (h63:c<=9223372036854775807) (w:World):
 (Instr.makeSlice t (.int kl (n:Int)) (.int kc (c:Int))).run P w=.ok (.slice (some ⟨w.heap.size,0,none⟩) n c) (w.alloc (.cells (madeCells z.cells (c * i.size)) e)):=by
 have hb:(i.bytes:Int) * (c:Int)<=281474976710656:=by
  have h:((i.bytes * c:Nat):Int)<=281474976710656:=by omega
  rwa [Int.natCast_mul]at h
 have hr:=run_make (P:=P) w t e i z ht hi hz kl kc n c (by omega) (by omega) hb (by omega);simp only[Int.toNat_natCast]at hr;exact hr
def z44 (lv wv sv:Value) (cn:Nat->Int):Array Value:=
 #[lv,wv,.int .i64 (cn 0),.int .i64 (cn 1),.int .i64 (cn 2),.int .i64 (cn 3),.int .i64 (cn 4),.int .i64 (cn 5),.int .i64 (cn 6),.int .i64 (cn 7),.int .i64 (cn 8),.int .i64 (cn 9),.int .i64 (cn 10),.int .i64 (cn 11),.int .i64 (cn 12),.int .i64 (cn 13),.int .i64 (cn 14),.int .i64 (cn 15),sv]
def wl (ws:List Nat):List Value:=ws.map fun x:Nat=>.int .u32 (x:Int)
structure Mk (W w:World) (t:Nat) (zs:List Int) (ws:List Nat) (cn:Nat->Int) (ss:List Int) (lv wv sv:Value):Prop where
 blk:aG w t 349 (z44 lv wv sv cn)
 lo:W.heap.size<=t
 len:ak W w 3 1 lv zs.length (il zs)
 wrd:ak W w 104 1 wv ws.length (wl ws)
 srt:ak W w 3 1 sv ss.length (il ss)
theorem RI (lv wv sv:Value) (cn:Nat->Int) (z:Nat) (hz:z<16) (v:Int):(z44 lv wv sv cn).setIfInBounds (2+z) (.int .i64 v)=z44 lv wv sv (fun m=>if m=z then v else cn m):=by
 rcases (show z=0∨z=1∨z=2∨z=3∨z=4∨z=5∨z=6∨z=7∨z=8∨z=9∨z=10∨z=11∨z=12∨z=13∨z=14∨z=15 by omega) with rfl|rfl|rfl|rfl|rfl|rfl|rfl|rfl|rfl|rfl|rfl|rfl|rfl|rfl|rfl|rfl<;>simp[z44]
namespace Mk
variable {W w w' : World} {t : Nat} {zs ss : List Int} {ws : List Nat} {cn : Nat → Int} {lv wv sv : Value}
theorem drewN (m:Mk W w t zs ws cn ss lv wv sv) (k:Nat):Mk W (w.drewN k) t zs ws cn ss lv wv sv:=⟨m.blk,m.lo,m.len.drewN k,m.wrd.drewN k,m.srt.drewN k⟩
theorem tr (m:Mk W w t zs ws cn ss lv wv sv) (c:Nx w w'):Mk W w' t zs ws cn ss lv wv sv:=⟨m.blk.nx c,m.lo,m.len.tr c,m.wrd.tr c,m.srt.tr c⟩
end Mk
attribute [local go_sem ↓] Go.wp_at_zero Go.wp_at_succ
def codes (zs:List Int):List Nat:=(List.range zs.length).map fun s=>if zs.getD s 0=0 then 0 else kF zs s
end Go.Proofs.YtpakjclpjcngmaaGreat
namespace Go.Proofs.YtpakjclpjcngmaaGreat
open Go.RowKit
theorem oZ {zs:List Int} (h:zB zs=0):zs.length<=320/\(∀z∈zs,0<=z/\z<=15)/\iH zs 15<=32768/\(iH zs 15=32768∨rZ zs 15=0∨(rZ zs 15=1/\cnt zs 1=1)):=by
 unfold zB at h;split at h
 ·omega
 ·split at h
  ·omega
  ·next h1 h2=>
   split at h
   ·omega
   ·next h3=>
    refine ⟨by omega,fun z hz=>?_,by omega,by omega⟩;have:¬(z<0∨15<z):=fun hb=>h2 ⟨z,hz,hb⟩;omega
theorem Xg {zs:List Int} {k:Nat} (h:k<zs.length):(il zs)[k]?=some (.int .i64 zs[k]):=by simp[il,h]
end Go.Proofs.YtpakjclpjcngmaaGreat
namespace Go.Proofs.YtpakjclpjcngmaaGreat
structure Inf where
 p:Nat
 out:List Nat
 e:Int
end Go.Proofs.YtpakjclpjcngmaaGreat
