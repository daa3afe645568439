/- The reference of layer 20: num, PutReq at right requests, Req. Printed by gen_wss.py. The reference of layer 20: Req of what is the same. Package aviarylaw20: cut, Few. Printed by gen_wba.py. -/
import Derived.Test.YtlmlcadcdhhlcaaGreatDoorZWs
set_option maxHeartbeats 8000000
set_option maxRecDepth 100000
namespace Go.Proofs.YtlmlcadcdhhlcaaGreatDoor
open Go Go.RowKit Go.Shelf
theorem jbd (n:Int) (D:0<=n) (E:n<=9223372036854775807) (w:World):CR 70 #[.int .i64 n] w (.string (jbe n)):=by
 have C:=Lib.hid (jaJ n ⟨D,by omega⟩ w);go_enter Tryz.func70,Tryz.ntmps70;go_wp2_with fail;refine C.out.mono ?_;rintro e F ⟨rfl,A⟩;have B:=Lib.hid A;clear A;go_wp2_with fail;go_ret;exact⟨rfl,B.out⟩
def jih (r:Rq):ByteArray:=jbe r.op++jbe r.now++jbe r.labels.size++r.labels++jbe r.scope.size++r.scope++jbe r.kind++jbe (r.items.length:Int)
def jgT (r:Rq) (k:Nat):ByteArray:=(r.items.take k).foldl (fun s i=>s++jbe (i.1:Int)++jbe i.2) (jih r)
def jii (r:Rq):ByteArray:=jgT r r.items.length++jbe r.h++jbe r.tnt++jbe r.id++jbe (r.tens.length:Int)
def jhp (r:Rq) (k:Nat):ByteArray:=(r.tens.take k).foldl (fun s n=>s++jbe n) (jii r)
theorem jcP {α:Type} (f:ByteArray->α->ByteArray) (c:Nat) (A:∀ s x,(f s x).size<=s.size+c):∀ (l:List α) (s:ByteArray),(l.foldl f s).size<=s.size+c*l.length
 | [],s=>by simp
 | x::l,s=>by
  have B:=jcP f c A l (f s x);have C:=A s x;have D:c*(l.length+1)=c*l.length+c:=Nat.mul_succ c l.length;rw[List.foldl_cons,List.length_cons];omega
theorem jgD {r:Rq} (h:r.ok=true):(jih r).size<=854:=by
 unfold Rq.ok at h;simp only[Bool.and_eq_true,decide_eq_true_eq] at h;obtain⟨⟨⟨⟨⟨⟨⟨_,_⟩,_⟩,_⟩,G⟩,H⟩,I⟩,J⟩:=h;have A:=jai r.op;have B:=jai r.now;have C:=jai r.labels.size;have D:=jai r.scope.size;have E:=jai r.kind;have F:=jai (r.items.length:Int);unfold jih;simp only[ByteArray.size_append];omega
theorem jcT {r:Rq} (h:r.ok=true) (k:Nat) (J:k<=r.items.length):(jgT r k).size<=1754:=by
 have D:=jgD h
 have A:=jcP (fun (s:ByteArray) (i:Nat × Int)=>s++jbe (i.1:Int)++jbe i.2) 18 (fun s i=>by
  have B:=jai (i.1:Int);have C:=jai i.2;simp only[ByteArray.size_append];omega) (r.items.take k) (jih r)
 unfold Rq.ok at h;simp only[Bool.and_eq_true,decide_eq_true_eq] at h;obtain⟨⟨⟨⟨⟨⟨⟨_,_⟩,_⟩,_⟩,F⟩,G⟩,H⟩,I⟩:=h;rw[List.length_take] at A;have E:18*min k r.items.length<=18*50:=Nat.mul_le_mul_left 18 (by omega);unfold jgT;omega
theorem jgF {r:Rq} (h:r.ok=true):(jii r).size<=1790:=by
 have E:=jcT h r.items.length (Nat.le_refl _);have A:=jai r.h;have B:=jai r.tnt;have C:=jai r.id;have D:=jai (r.tens.length:Int);unfold jii;simp only[ByteArray.size_append];omega
theorem jgG {r:Rq} (h:r.ok=true) (k:Nat) (I:k<=r.tens.length):(jhp r k).size<=1862:=by
 have C:=jgF h
 have A:=jcP (fun (s:ByteArray) (n:Int)=>s++jbe n) 9 (fun s n=>by
  have B:=jai n;simp only[ByteArray.size_append];omega) (r.tens.take k) (jii r)
 unfold Rq.ok at h;simp only[Bool.and_eq_true,decide_eq_true_eq] at h;obtain⟨⟨⟨⟨⟨⟨⟨_,_⟩,_⟩,_⟩,E⟩,F⟩,G⟩,H⟩:=h;rw[List.length_take] at A;have D:9*min k r.tens.length<=9*8:=Nat.mul_le_mul_left 9 (by omega);unfold jhp;omega
theorem jgE (r:Rq) {k:Nat} {i:Nat × Int} (h:r.items[k]? = some i):jgT r (k+1)=jgT r k++jbe (i.1:Int)++jbe i.2:=by
 unfold jgT;rw[jaq h,List.foldl_append];rfl
theorem jgH (r:Rq) {k:Nat} {n:Int} (h:r.tens[k]? = some n):jhp r (k+1)=jhp r k++jbe n:=by
 unfold jhp;rw[jaq h,List.foldl_append];rfl
theorem jbv (r:Rq) (ia:Option Addr) (ic:Nat) (ta:Option Addr) (tc:Nat) (w:World) (a:r.Wf) (hI:SlE ja1 2 w.heap.size w ia r.items.length r.items) (hT:SlE jca 1 w.heap.size w ta r.tens.length r.tens) (H:r.ok=true) :
  CR 44 #[.agg (rqV r ia ic ta tc)] w (.tuple #[.string (jhp r r.tens.length),.int .i64 0]):=by
 obtain⟨W,hW,hX,g,aS⟩:=jab w (rqV r ia ic ta tc) 48;have aa:=H;unfold Rq.ok at aa;simp only[Bool.and_eq_true,decide_eq_true_eq] at aa;obtain⟨⟨⟨⟨⟨⟨⟨g1,g2⟩,g3⟩,g4⟩,g5⟩,g6⟩,g7⟩,g8⟩:=aa;have n1:¬ r.op<0:=by omega
 have n2:¬ 255<r.op:=by omega
 have n3:¬ r.kind<0:=by omega
 have n4:¬ 255<r.kind:=by omega
 have n5:¬ (400:Int)<(r.labels.size:Int):=by omega
 have n6:¬ (400:Int)<(r.scope.size:Int):=by omega
 have n7:¬ (50:Int)<(r.items.length:Int):=by omega
 have n8:¬ (8:Int)<(r.tens.length:Int):=by omega
 unfold rqV at hX hW ⊢;obtain⟨c0,c1,c2,c3,c4,c5,c6,c7,c8,c9⟩:=jb3 hX;obtain⟨P0,ad⟩:∃ P,jbe r.op=P:=⟨_,rfl⟩;obtain⟨P1,ae⟩:∃ P,jbe r.now=P:=⟨_,rfl⟩;obtain⟨P2,af⟩:∃ P,jbe (r.labels.size:Int)=P:=⟨_,rfl⟩;obtain⟨P3,ag⟩:∃ P,jbe (r.scope.size:Int)=P:=⟨_,rfl⟩;obtain⟨P4,ah⟩:∃ P,jbe r.kind=P:=⟨_,rfl⟩;obtain⟨P5,ai⟩:∃ P,jbe (r.items.length:Int)=P:=⟨_,rfl⟩;have ax:Hid (∀ V,CR 70 #[.int .i64 r.op] V (.string P0)):=fun V=>ad▸jbd r.op g1 (by omega) V
 have ay:Hid (∀ V,CR 71 #[.int .u64 r.now] V (.string P1)):=fun V=>ae▸jaJ r.now a.now V
 have az:Hid (∀ V,CR 70 #[.int .i64 r.labels.size] V (.string P2)):=fun V=>af▸jbd r.labels.size (by omega) (by omega) V
 have aA:Hid (∀ V,CR 70 #[.int .i64 r.scope.size] V (.string P3)):=fun V=>ag▸jbd r.scope.size (by omega) (by omega) V
 have aB:Hid (∀ V,CR 70 #[.int .i64 r.kind] V (.string P4)):=fun V=>ah▸jbd r.kind g3 (by omega) V
 have aC:Hid (∀ V,CR 70 #[.int .i64 r.items.length] V (.string P5)):=fun V=>ai▸jbd r.items.length (by omega) (by omega) V
 have aG:jih r=P0++P1++P2++r.labels++P3++r.scope++P4++P5:=by unfold jih;rw[ad,ae,af,ag,ah,ai]
 have z0:=jai r.op;have z1:=jai r.now;have z2:=jai r.labels.size;have z3:=jai r.scope.size;have z4:=jai r.kind;have z5:=jai (r.items.length:Int);rw[ad] at z0;rw[ae] at z1;rw[af] at z2;rw[ag] at z3;rw[ah] at z4;rw[ai] at z5;have k1:¬ 9223372036854775807<P0.size+P1.size:=by omega
 have k2:¬ 9223372036854775807<P0.size+P1.size+P2.size:=by omega
 have k3:¬ 9223372036854775807<P0.size+P1.size+P2.size+r.labels.size:=by omega
 have k4:¬ 9223372036854775807<P0.size+P1.size+P2.size+r.labels.size+P3.size:=by omega
 have k5:¬ 9223372036854775807<P0.size+P1.size+P2.size+r.labels.size+P3.size+r.scope.size:=by omega
 have k6:¬ 9223372036854775807<P0.size+P1.size+P2.size+r.labels.size+P3.size+r.scope.size+P4.size:=by omega
 have k7:¬ 9223372036854775807<P0.size+P1.size+P2.size+r.labels.size+P3.size+r.scope.size+P4.size+P5.size:=by omega
 obtain⟨D,hD⟩:∃ D,W.drew=D:=⟨_,rfl⟩;have aR:D.heap[w.heap.size]? = some (.cells #[.int .i64 r.op,.int .u64 r.now,.string r.labels,.string r.scope,.int .i64 r.kind,.slice ia r.items.length ic,.int .u64 r.h,.int .u64 r.tnt,.int .u64 r.id,.slice ta r.tens.length tc] 48 (0,0)):=by rw[<- hD];exact hX
 have ab:Hid (Bw W D):=by rw[Hid,<- hD];exact (Below.refl _ W).drew
 have b:Hid (∀ V,Bw W V->(fun C=>C.cell? ⟨w.heap.size,0,none⟩=some (.int .i64 r.op)/\C.cell? ⟨w.heap.size,1,none⟩=some (.int .u64 r.now)/\C.cell? ⟨w.heap.size,2,none⟩=some (.string r.labels)/\C.cell? ⟨w.heap.size,3,none⟩=some (.string r.scope)/\C.cell? ⟨w.heap.size,4,none⟩=some (.int .i64 r.kind)/\C.cell? ⟨w.heap.size,5,none⟩=some (.slice ia r.items.length ic)/\C.cell? ⟨w.heap.size,6,none⟩=some (.int .u64 r.h)/\C.cell? ⟨w.heap.size,7,none⟩=some (.int .u64 r.tnt)/\C.cell? ⟨w.heap.size,8,none⟩=some (.int .u64 r.id)/\C.cell? ⟨w.heap.size,9,none⟩=some (.slice ta r.tens.length tc)) V):=fun V z=>by
  have h:=known z (Nat.le_refl _) hX;exact⟨cCc h 0,cCc h 1,cCc h 2,cCc h 3,cCc h 4,cCc h 5,cCc h 6,cCc h 7,cCc h 8,cCc h 9⟩
 have HS:Hid (∀ V,Bw D V->(fun C=>C.cell? ⟨w.heap.size,0,none⟩=some (.int .i64 r.op)/\C.cell? ⟨w.heap.size,1,none⟩=some (.int .u64 r.now)/\C.cell? ⟨w.heap.size,2,none⟩=some (.string r.labels)/\C.cell? ⟨w.heap.size,3,none⟩=some (.string r.scope)/\C.cell? ⟨w.heap.size,4,none⟩=some (.int .i64 r.kind)/\C.cell? ⟨w.heap.size,5,none⟩=some (.slice ia r.items.length ic)/\C.cell? ⟨w.heap.size,6,none⟩=some (.int .u64 r.h)/\C.cell? ⟨w.heap.size,7,none⟩=some (.int .u64 r.tnt)/\C.cell? ⟨w.heap.size,8,none⟩=some (.int .u64 r.id)/\C.cell? ⟨w.heap.size,9,none⟩=some (.slice ta r.tens.length tc)) V):=fun V z=>b.out V (ab.out.trans (z.mono ab.out.size))
 have HD:=Lib.hid hD;have aD:=Lib.hid (And.intro (hI.go g) (And.intro (hT.go g) (And.intro g (And.intro a H))));have ao:=Lib.hid (And.intro g5 (And.intro g6 aG));clear hX aR hD g aS hI hT a H aG ad ae af ag ah ai z0 z1 z2 z3 z4 z5 g1 g2 g3 g4 g5 g6 g7 g8;go_enter Tryz.func44,Tryz.ntmps44;go_wp2_with fail;refine wp_region_held_drew (S:=fun C=>C.cell? ⟨w.heap.size,0,none⟩=some (.int .i64 r.op)/\C.cell? ⟨w.heap.size,1,none⟩=some (.int .u64 r.now)/\C.cell? ⟨w.heap.size,2,none⟩=some (.string r.labels)/\C.cell? ⟨w.heap.size,3,none⟩=some (.string r.scope)/\C.cell? ⟨w.heap.size,4,none⟩=some (.int .i64 r.kind)/\C.cell? ⟨w.heap.size,5,none⟩=some (.slice ia r.items.length ic)/\C.cell? ⟨w.heap.size,6,none⟩=some (.int .u64 r.h)/\C.cell? ⟨w.heap.size,7,none⟩=some (.int .u64 r.tnt)/\C.cell? ⟨w.heap.size,8,none⟩=some (.int .u64 r.id)/\C.cell? ⟨w.heap.size,9,none⟩=some (.slice ta r.tens.length tc)) (by kernel_rfl) (by rw[HD.out];exact HS.out D (Below.refl _ _)) (fun F=>?_);rw[HD.out] at F ⊢;refine wpAnyH_take (i:=0) (v:=?_) rfl (by kernel_rfl) (by kernel_rfl) (by kernel_rfl) (fun _ _ _ h=>h) (Or.inl ⟨by rfl,?_⟩) (by assumption) ?_;rotate_left
 ·intro w A;go_simp;with_reducible rfl
 refine wpAnyH_take (i:=1) (v:=?_) rfl (by kernel_rfl) (by kernel_rfl) (by kernel_rfl) (fun _ _ _ h=>h) (Or.inl ⟨by rfl,?_⟩) (by assumption) ?_;rotate_left
 ·intro w A;go_split_ands;go_simp;with_reducible rfl
 refine wpAnyH_take (i:=3) (v:=?_) rfl (by kernel_rfl) (by kernel_rfl) (by kernel_rfl) (fun _ _ _ h=>h) (Or.inl ⟨by rfl,?_⟩) (by assumption) ?_;rotate_left
 ·intro w A;go_simp;with_reducible rfl
 refine wpAnyH_take (i:=4) (v:=?_) rfl (by kernel_rfl) (by kernel_rfl) (by kernel_rfl) (fun _ _ _ h=>h) (Or.inl ⟨by rfl,?_⟩) (by assumption) ?_;rotate_left
 ·intro w A;go_split_ands;go_simp;with_reducible rfl
 refine wpAnyH_take (i:=7) (v:=?_) rfl (by kernel_rfl) (by kernel_rfl) (by kernel_rfl) (fun _ _ _ h=>h) (Or.inl ⟨by rfl,?_⟩) (by assumption) ?_;rotate_left
 ·intro w A;go_simp;with_reducible rfl
 refine wpAnyH_take (i:=8) (v:=?_) rfl (by kernel_rfl) (by kernel_rfl) (by kernel_rfl) (fun _ _ _ h=>h) (Or.inl ⟨by rfl,?_⟩) (by assumption) ?_;rotate_left
 ·intro w A;go_split_ands;go_simp;with_reducible rfl
 refine wpAnyH_take (i:=9) (v:=?_) rfl (by kernel_rfl) (by kernel_rfl) (by kernel_rfl) (fun _ _ _ h=>h) (Or.inl ⟨by rfl,?_⟩) (by assumption) ?_;rotate_left
 ·intro w A;go_simp;with_reducible rfl
 refine wpAnyH_take (i:=12) (v:=?_) rfl (by kernel_rfl) (by kernel_rfl) (by kernel_rfl) (fun _ _ _ h=>h) (Or.inl ⟨by rfl,?_⟩) (by assumption) ?_;rotate_left
 ·intro w A;go_simp;with_reducible rfl
 refine wpAnyH_take (i:=13) (v:=?_) rfl (by kernel_rfl) (by kernel_rfl) (by kernel_rfl) (fun _ _ _ h=>h) (Or.inl ⟨by rfl,?_⟩) (by assumption) ?_;rotate_left
 ·intro w A;go_split_ands;go_simp;with_reducible rfl
 refine wpAnyH_take (i:=15) (v:=?_) rfl (by kernel_rfl) (by kernel_rfl) (by kernel_rfl) (fun _ _ _ h=>h) (Or.inl ⟨by rfl,?_⟩) (by assumption) ?_;rotate_left
 ·intro w A;go_simp;with_reducible rfl
 refine wpAnyH_take (i:=16) (v:=?_) rfl (by kernel_rfl) (by kernel_rfl) (by kernel_rfl) (fun _ _ _ h=>h) (Or.inl ⟨by rfl,?_⟩) (by assumption) ?_;rotate_left
 ·intro w A;go_split_ands;go_simp;with_reducible rfl
 refine wpAnyH_take (i:=17) (v:=?_) rfl (by kernel_rfl) (by kernel_rfl) (by kernel_rfl) (fun _ _ _ h=>h) (Or.inl ⟨by rfl,?_⟩) (by assumption) ?_;rotate_left
 ·intro w A;go_simp;with_reducible rfl
 refine wpAnyH_take (i:=20) (v:=?_) rfl (by kernel_rfl) (by kernel_rfl) (by kernel_rfl) (fun _ _ _ h=>h) (Or.inl ⟨by rfl,?_⟩) (by assumption) ?_;rotate_left
 ·intro w A;go_simp;with_reducible rfl
 refine wpAnyH_take (i:=21) (v:=?_) rfl (by kernel_rfl) (by kernel_rfl) (by kernel_rfl) (fun _ _ _ h=>h) (Or.inl ⟨by rfl,?_⟩) (by assumption) ?_;rotate_left
 ·intro w A;go_split_ands;go_simp;with_reducible rfl
 refine wpAnyH_take (i:=23) (v:=?_) rfl (by kernel_rfl) (by kernel_rfl) (by kernel_rfl) (fun _ _ _ h=>h) (Or.inl ⟨by rfl,?_⟩) (by assumption) ?_;rotate_left
 ·intro w A;go_simp;with_reducible rfl
 refine wpAnyH_take (i:=24) (v:=?_) rfl (by kernel_rfl) (by kernel_rfl) (by kernel_rfl) (fun _ _ _ h=>h) (Or.inl ⟨by rfl,?_⟩) (by assumption) ?_;rotate_left
 ·intro w A;go_split_ands;go_simp;with_reducible rfl
 refine wpAnyH_take (i:=27) (v:=?_) rfl (by kernel_rfl) (by kernel_rfl) (by kernel_rfl) (fun _ _ _ h=>h) (Or.inl ⟨by rfl,?_⟩) (by assumption) ?_;rotate_left
 ·intro w A;go_simp;with_reducible rfl
 refine wpAnyH_take (i:=28) (v:=?_) rfl (by kernel_rfl) (by kernel_rfl) (by kernel_rfl) (fun _ _ _ h=>h) (Or.inl ⟨by rfl,?_⟩) (by assumption) ?_;rotate_left
 ·intro w A;go_split_ands;go_simp;with_reducible rfl
 refine wpAnyH_take (i:=29) (v:=?_) rfl (by kernel_rfl) (by kernel_rfl) (by kernel_rfl) (fun _ _ _ h=>h) (Or.inl ⟨by rfl,?_⟩) (by assumption) ?_;rotate_left
 ·intro w A;go_simp;with_reducible rfl
 refine wpAnyH_ready (rs:=[2]) (by kernel_rfl) (by simp) ?_;refine AllReadyH.cons rfl (fun K hK=>?_) ?_
 ·go_simp
  refine (ax.out _).mono ?_;rintro e x1 ⟨rfl,G⟩;have R:Hid (Bw D x1):=G;clear G;refine hK.out _ _ ?_ (fun B=>?_)
  ·exact HS.out _ R.out
  clear hK K F;have F:=B;clear B;refine wpAnyH_ready (rs:=[5]) (by kernel_rfl) (by simp) ?_;refine AllReadyH.cons rfl (fun K hK=>?_) ?_
  ·go_simp
   refine (ay.out _).mono ?_;rintro e x2 ⟨rfl,G⟩;have U:Hid (Bw D x2):=R.out.trans (G.mono R.out.size);clear G;refine hK.out _ _ ?_ (fun B=>?_)
   ·exact HS.out _ U.out
   clear hK K F;have F:=B;clear B;refine wpAnyH_take (i:=6) (v:=?_) rfl (by kernel_rfl) (by kernel_rfl) (by kernel_rfl) (fun _ _ _ h=>h) (Or.inl ⟨by rfl,?_⟩) (by assumption) ?_;rotate_left
   ·intro w A;go_simp;with_reducible rfl
   refine wpAnyH_ready (rs:=[10]) (by kernel_rfl) (by simp) ?_;refine AllReadyH.cons rfl (fun K hK=>?_) ?_
   ·go_simp
    refine (az.out _).mono ?_;rintro e x3 ⟨rfl,G⟩;have X:Hid (Bw D x3):=U.out.trans (G.mono U.out.size);clear G;refine hK.out _ _ ?_ (fun B=>?_)
    ·exact HS.out _ X.out
    clear hK K F;have F:=B;clear B;refine wpAnyH_take (i:=11) (v:=?_) rfl (by kernel_rfl) (by kernel_rfl) (by kernel_rfl) (fun _ _ _ h=>h) (Or.inl ⟨by rfl,?_⟩) (by assumption) ?_;rotate_left
    ·intro w A;go_simp;with_reducible rfl
    refine wpAnyH_take (i:=14) (v:=?_) rfl (by kernel_rfl) (by kernel_rfl) (by kernel_rfl) (fun _ _ _ h=>h) (Or.inl ⟨by rfl,?_⟩) (by assumption) ?_;rotate_left
    ·intro w A;go_simp;with_reducible rfl
    refine wpAnyH_ready (rs:=[18]) (by kernel_rfl) (by simp) ?_;refine AllReadyH.cons rfl (fun K hK=>?_) ?_
    ·go_simp
     refine (aA.out _).mono ?_;rintro e x4 ⟨rfl,G⟩;have Y:Hid (Bw D x4):=X.out.trans (G.mono X.out.size);clear G;refine hK.out _ _ ?_ (fun B=>?_)
     ·exact HS.out _ Y.out
     clear hK K F;have F:=B;clear B;refine wpAnyH_take (i:=19) (v:=?_) rfl (by kernel_rfl) (by kernel_rfl) (by kernel_rfl) (fun _ _ _ h=>h) (Or.inl ⟨by rfl,?_⟩) (by assumption) ?_;rotate_left
     ·intro w A;go_simp;with_reducible rfl
     refine wpAnyH_take (i:=22) (v:=?_) rfl (by kernel_rfl) (by kernel_rfl) (by kernel_rfl) (fun _ _ _ h=>h) (Or.inl ⟨by rfl,?_⟩) (by assumption) ?_;rotate_left
     ·intro w A;go_simp;with_reducible rfl
     refine wpAnyH_ready (rs:=[25]) (by kernel_rfl) (by simp) ?_;refine AllReadyH.cons rfl (fun K hK=>?_) ?_
     ·go_simp
      refine (aB.out _).mono ?_;rintro e x5 ⟨rfl,G⟩;have Z:Hid (Bw D x5):=Y.out.trans (G.mono Y.out.size);clear G;refine hK.out _ _ ?_ (fun B=>?_)
      ·exact HS.out _ Z.out
      clear hK K F;have F:=B;clear B;refine wpAnyH_take (i:=26) (v:=?_) rfl (by kernel_rfl) (by kernel_rfl) (by kernel_rfl) (fun _ _ _ h=>h) (Or.inl ⟨by rfl,?_⟩) (by assumption) ?_;rotate_left
      ·intro w A;go_simp;with_reducible rfl
      refine wpAnyH_ready (rs:=[30]) (by kernel_rfl) (by simp) ?_;refine AllReadyH.cons rfl (fun K hK=>?_) ?_
      ·go_simp
       refine (aC.out _).mono ?_;rintro e x6 ⟨rfl,G⟩;have aj:Hid (Bw D x6):=Z.out.trans (G.mono Z.out.size);clear G;refine hK.out _ _ ?_ (fun B=>?_)
       ·exact HS.out _ aj.out
       clear hK K F;have F:=B;clear B;refine wpAnyH_take (i:=31) (v:=?_) rfl (by kernel_rfl) (by kernel_rfl) (by kernel_rfl) (fun _ _ _ h=>h) (Or.inl ⟨by rfl,?_⟩) (by assumption) ?_;rotate_left
       ·intro w A;go_simp;with_reducible rfl
       refine wpAnyH_ready (rs:=[32]) (by kernel_rfl) (by simp) ?_;refine AllReadyH.cons rfl (fun K hK=>?_) ?_
       ·go_simp
        refine hK.out _ _ ?_ (fun B=>?_)
        ·exact F
        clear hK K F;have F:=B;clear B;refine wpAnyH_done (by kernel_rfl) ?_ _;have aH:Hid (Bw W x6):=ab.out.trans (aj.out.mono ab.out.size);rw[<- ao.out.2.2];have aT:=ao.out.1;have aU:=ao.out.2.1;have aQ:Hid (True):=trivial;clear F k1 k2 k3 k4 k5 k6 k7 c0 c1 c2 c3 c4 c5 c6 c7 c8 c9 n1 n2 n3 n4 n5 n6 n7 n8 ax ay az aA aB aC R U X Y Z;go_wp2_with fail;go_loopw [4,5] (fun s i wr=>∃ k:Nat,s=.string (jgT r k)/\i=.int .i64 k/\k<=r.items.length/\Hid (Bw W wr)) (fun _ i _=>r.items.length-(intOf i).toNat)
        case atStart=>exact⟨0,rfl,rfl,Nat.zero_le _,aH.out⟩
        case round =>
         obtain⟨k,rfl,rfl,hk,am⟩:=hrel;obtain⟨hI,-,g,a,H⟩:=aD.out;have d5:=(b.out _ am.out).2.2.2.2.2.1;by_cases av:k<r.items.length
         ·obtain⟨E,hE⟩:∃ E,wr.drew=E:=⟨_,rfl⟩
          have c:Bw W E:=by rw[<- hE];exact am.out.drew
          obtain⟨x,f,l,hx,rfl,au,d⟩:=(hI.below c).at av;have p0:E.cell? ⟨f,l+k*2,none⟩=some (.int .u64 (x.1:Int)):=d 0 (by omega);have p1:E.cell? ⟨f,l+k*2+1,none⟩=some (.int .u64 x.2):=d 1 (by omega);have i0:(0:Int)<=(k:Int):=by omega
          have i1:(k:Int)<(r.items.length:Int):=by omega
          have hU:=a.items x (List.mem_of_getElem? hx);have N:=jcT H k hk;have y:=jai (x.1:Int);have aF:=jai x.2;have I:=jgE r hx;obtain⟨Q0,J⟩:∃ Q,jbe (x.1:Int)=Q:=⟨_,rfl⟩;obtain⟨Q1,L⟩:∃ Q,jbe x.2=Q:=⟨_,rfl⟩;obtain⟨T,M⟩:∃ T,jgT r k=T:=⟨_,rfl⟩;have aI:Hid (∀ V,CR 71 #[.int .u64 (x.1:Int)] V (.string Q0)):=fun V=>J▸jaJ _ hU.1 V
          have aJ:Hid (∀ V,CR 71 #[.int .u64 x.2] V (.string Q1)):=fun V=>L▸jaJ _ hU.2 V
          rw[J,L] at I;rw[J] at y;rw[L] at aF;rw[M] at I N ⊢;have m1:¬ 9223372036854775807<T.size+Q0.size:=by omega
          have m2:¬ 9223372036854775807<T.size+Q0.size+Q1.size:=by omega
          have aO:=Lib.hid I
          have ap:Hid (∀ V,Bw E V->V.cell? ⟨w.heap.size,5,none⟩=some (.slice (some ⟨f,l,none⟩) r.items.length ic)/\V.cell? ⟨f,l+k*2,none⟩=some (.int .u64 (x.1:Int))/\V.cell? ⟨f,l+k*2+1,none⟩=some (.int .u64 x.2)):=fun V z=>by
           refine⟨(b.out _ (c.trans (z.mono c.size))).2.2.2.2.2.1,(z.cell (p:=⟨f,l+k*2,none⟩) ?_).trans p0,(z.cell (p:=⟨f,l+k*2+1,none⟩) ?_).trans p1⟩
           ·exact World.block_lt_of_cell? E _ p0
           ·exact World.block_lt_of_cell? E _ p1
          have an:Hid (∀ V,Bw E V->Bw W V):=fun V z=>c.trans (z.mono c.size)
          obtain⟨y0,q0,q1⟩:=ap.out E (Below.refl _ _);have HE:=Lib.hid hE;clear d hx au hI g a H hU N y aF I J L M hE c p0 p1;go_wp2_with fail;refine wp_region_held_drew (S:=fun C=>C.cell? ⟨w.heap.size,5,none⟩=some (.slice (some ⟨f,l,none⟩) r.items.length ic)/\C.cell? ⟨f,l+k*2,none⟩=some (.int .u64 (x.1:Int))/\C.cell? ⟨f,l+k*2+1,none⟩=some (.int .u64 x.2)) (by kernel_rfl) (by rw[HE.out];exact⟨y0,q0,q1⟩) (fun F=>?_);rw[HE.out] at F ⊢;refine wpAnyH_take (i:=0) (v:=?_) rfl (by kernel_rfl) (by kernel_rfl) (by kernel_rfl) (fun _ _ _ h=>h) (Or.inl ⟨by rfl,?_⟩) (by assumption) ?_;rotate_left
          ·intro w A;go_simp;with_reducible rfl
          refine wpAnyH_take (i:=1) (v:=?_) rfl (by kernel_rfl) (by kernel_rfl) (by kernel_rfl) (fun _ _ _ h=>h) (Or.inl ⟨by rfl,?_⟩) (by assumption) ?_;rotate_left
          ·intro w A;go_simp;with_reducible rfl
          refine wpAnyH_take (i:=2) (v:=?_) rfl (by kernel_rfl) (by kernel_rfl) (by kernel_rfl) (fun _ _ _ h=>h) (Or.inl ⟨by rfl,?_⟩) (by assumption) ?_;rotate_left
          ·intro w A;go_split_ands;go_simp;with_reducible rfl
          refine wpAnyH_take (i:=3) (v:=?_) rfl (by kernel_rfl) (by kernel_rfl) (by kernel_rfl) (fun _ _ _ h=>h) (Or.inl ⟨by rfl,?_⟩) (by assumption) ?_;rotate_left
          ·intro w A;go_simp;with_reducible rfl
          refine wpAnyH_take (i:=4) (v:=?_) rfl (by kernel_rfl) (by kernel_rfl) (by kernel_rfl) (fun _ _ _ h=>h) (Or.inl ⟨by rfl,?_⟩) (by assumption) ?_;rotate_left
          ·intro w A;go_simp;with_reducible rfl
          refine wpAnyH_take (i:=5) (v:=?_) rfl (by kernel_rfl) (by kernel_rfl) (by kernel_rfl) (fun _ _ _ h=>h) (Or.inl ⟨by rfl,?_⟩) (by assumption) ?_;rotate_left
          ·intro w A;go_simp;with_reducible rfl
          refine wpAnyH_take (i:=6) (v:=?_) rfl (by kernel_rfl) (by kernel_rfl) (by kernel_rfl) (fun _ _ _ h=>h) (Or.inl ⟨by rfl,?_⟩) (by assumption) ?_;rotate_left
          ·intro w A;go_split_ands;go_simp;with_reducible rfl
          refine wpAnyH_take (i:=9) (v:=?_) rfl (by kernel_rfl) (by kernel_rfl) (by kernel_rfl) (fun _ _ _ h=>h) (Or.inl ⟨by rfl,?_⟩) (by assumption) ?_;rotate_left
          ·intro w A;go_simp;with_reducible rfl
          refine wpAnyH_take (i:=10) (v:=?_) rfl (by kernel_rfl) (by kernel_rfl) (by kernel_rfl) (fun _ _ _ h=>h) (Or.inl ⟨by rfl,?_⟩) (by assumption) ?_;rotate_left
          ·intro w A;go_split_ands;go_simp;with_reducible rfl
          refine wpAnyH_take (i:=11) (v:=?_) rfl (by kernel_rfl) (by kernel_rfl) (by kernel_rfl) (fun _ _ _ h=>h) (Or.inl ⟨by rfl,?_⟩) (by assumption) ?_;rotate_left
          ·intro w A;go_simp;with_reducible rfl
          refine wpAnyH_take (i:=12) (v:=?_) rfl (by kernel_rfl) (by kernel_rfl) (by kernel_rfl) (fun _ _ _ h=>h) (Or.inl ⟨by rfl,?_⟩) (by assumption) ?_;rotate_left
          ·intro w A;go_simp;with_reducible rfl
          refine wpAnyH_take (i:=13) (v:=?_) rfl (by kernel_rfl) (by kernel_rfl) (by kernel_rfl) (fun _ _ _ h=>h) (Or.inl ⟨by rfl,?_⟩) (by assumption) ?_;rotate_left
          ·intro w A;go_simp;with_reducible rfl
          refine wpAnyH_take (i:=14) (v:=?_) rfl (by kernel_rfl) (by kernel_rfl) (by kernel_rfl) (fun _ _ _ h=>h) (Or.inl ⟨by rfl,?_⟩) (by assumption) ?_;rotate_left
          ·intro w A;go_split_ands;go_simp;with_reducible rfl
          refine wpAnyH_ready (rs:=[7]) (by kernel_rfl) (by simp) ?_;refine AllReadyH.cons rfl (fun K hK=>?_) ?_
          ·go_simp
           refine (aI.out _).mono ?_;rintro e y1 ⟨rfl,G⟩;have n:Hid (Bw E y1):=G;clear G;refine hK.out _ _ ?_ (fun B=>?_)
           ·exact ap.out _ n.out
           clear hK K F;have F:=B;clear B;refine wpAnyH_take (i:=8) (v:=?_) rfl (by kernel_rfl) (by kernel_rfl) (by kernel_rfl) (fun _ _ _ h=>h) (Or.inl ⟨by rfl,?_⟩) (by assumption) ?_;rotate_left
           ·intro w A;go_simp;with_reducible rfl
           refine wpAnyH_ready (rs:=[15]) (by kernel_rfl) (by simp) ?_;refine AllReadyH.cons rfl (fun K hK=>?_) ?_
           ·go_simp
            refine (aJ.out _).mono ?_;rintro e y2 ⟨rfl,G⟩;have ak:Hid (Bw E y2):=n.out.trans (G.mono n.out.size);clear G;refine hK.out _ _ ?_ (fun B=>?_)
            ·exact ap.out _ ak.out
            clear hK K F;have F:=B;clear B;refine wpAnyH_take (i:=16) (v:=?_) rfl (by kernel_rfl) (by kernel_rfl) (by kernel_rfl) (fun _ _ _ h=>h) (Or.inl ⟨by rfl,?_⟩) (by assumption) ?_;rotate_left
            ·intro w A;go_simp;with_reducible rfl
            refine wpAnyH_ready (rs:=[17]) (by kernel_rfl) (by simp) ?_;refine AllReadyH.cons rfl (fun K hK=>?_) ?_
            ·go_simp
             refine hK.out _ _ ?_ (fun B=>?_)
             ·exact F
             clear hK K F;have F:=B;clear B;refine wpAnyH_done (by kernel_rfl) ?_ _;go_wp2_with fail;exact⟨⟨k+1,by rw[aO.out],by go_num,by omega,an.out _ ak.out⟩,by simp[intOf];omega⟩
            exact AllReadyH.nil
           exact AllReadyH.nil
          exact AllReadyH.nil
         ·obtain rfl:k=r.items.length:=by omega
          obtain⟨E,hE⟩:∃ E,wr.drew=E:=⟨_,rfl⟩;have ac:Hid (Bw W E):=by rw[Hid,<- hE];exact am.out.drew
          have N:=jcT H r.items.length (Nat.le_refl _);have q0:=jai r.h;have q1:=jai r.tnt;have q2:=jai r.id;have q3:=jai (r.tens.length:Int);have O:Hid (jgT r r.items.length++jbe r.h++jbe r.tnt++jbe r.id++jbe (r.tens.length:Int)=jii r):=rfl;obtain⟨T,M⟩:∃ T,jgT r r.items.length=T:=⟨_,rfl⟩;obtain⟨Q0,J⟩:∃ Q,jbe r.h=Q:=⟨_,rfl⟩;obtain⟨Q1,L⟩:∃ Q,jbe r.tnt=Q:=⟨_,rfl⟩;obtain⟨Q2,aq⟩:∃ Q,jbe r.id=Q:=⟨_,rfl⟩;obtain⟨Q3,ar⟩:∃ Q,jbe (r.tens.length:Int)=Q:=⟨_,rfl⟩;have aK:Hid (∀ V,CR 71 #[.int .u64 r.h] V (.string Q0)):=fun V=>J▸jaJ _ a.h V
          have aL:Hid (∀ V,CR 71 #[.int .u64 r.tnt] V (.string Q1)):=fun V=>L▸jaJ _ a.tnt V
          have aM:Hid (∀ V,CR 71 #[.int .u64 r.id] V (.string Q2)):=fun V=>aq▸jaJ _ a.id V
          have aN:Hid (∀ V,CR 70 #[.int .i64 r.tens.length] V (.string Q3)):=fun V=>ar▸jbd _ (by omega) (by omega) V
          rw[M] at N O ⊢;rw[J] at q0 O;rw[L] at q1 O;rw[aq] at q2 O;rw[ar] at q3 O;have m1:¬ 9223372036854775807<T.size+Q0.size:=by omega
          have m2:¬ 9223372036854775807<T.size+Q0.size+Q1.size:=by omega
          have m3:¬ 9223372036854775807<T.size+Q0.size+Q1.size+Q2.size:=by omega
          have m4:¬ 9223372036854775807<T.size+Q0.size+Q1.size+Q2.size+Q3.size:=by omega
          have u:Hid (∀ V,Bw E V->V.cell? ⟨w.heap.size,6,none⟩=some (.int .u64 r.h)/\V.cell? ⟨w.heap.size,7,none⟩=some (.int .u64 r.tnt)/\V.cell? ⟨w.heap.size,8,none⟩=some (.int .u64 r.id)/\V.cell? ⟨w.heap.size,9,none⟩=some (.slice ta r.tens.length tc)):=fun V z=>(b.out _ (ac.out.trans (z.mono ac.out.size))).2.2.2.2.2.2
          have HE:=Lib.hid hE;clear hI g a H J L aq ar M hE;go_wp2_with fail;refine wp_region_held_drew (S:=fun C=>C.cell? ⟨w.heap.size,6,none⟩=some (.int .u64 r.h)/\C.cell? ⟨w.heap.size,7,none⟩=some (.int .u64 r.tnt)/\C.cell? ⟨w.heap.size,8,none⟩=some (.int .u64 r.id)/\C.cell? ⟨w.heap.size,9,none⟩=some (.slice ta r.tens.length tc)) (by kernel_rfl) (by rw[HE.out];exact u.out E (Below.refl _ _)) (fun F=>?_);rw[HE.out] at F ⊢;refine wpAnyH_take (i:=0) (v:=?_) rfl (by kernel_rfl) (by kernel_rfl) (by kernel_rfl) (fun _ _ _ h=>h) (Or.inl ⟨by rfl,?_⟩) (by assumption) ?_;rotate_left
          ·intro w A;go_simp;with_reducible rfl
          refine wpAnyH_take (i:=1) (v:=?_) rfl (by kernel_rfl) (by kernel_rfl) (by kernel_rfl) (fun _ _ _ h=>h) (Or.inl ⟨by rfl,?_⟩) (by assumption) ?_;rotate_left
          ·intro w A;go_simp;with_reducible rfl
          refine wpAnyH_take (i:=2) (v:=?_) rfl (by kernel_rfl) (by kernel_rfl) (by kernel_rfl) (fun _ _ _ h=>h) (Or.inl ⟨by rfl,?_⟩) (by assumption) ?_;rotate_left
          ·intro w A;go_split_ands;go_simp;with_reducible rfl
          refine wpAnyH_take (i:=5) (v:=?_) rfl (by kernel_rfl) (by kernel_rfl) (by kernel_rfl) (fun _ _ _ h=>h) (Or.inl ⟨by rfl,?_⟩) (by assumption) ?_;rotate_left
          ·intro w A;go_simp;with_reducible rfl
          refine wpAnyH_take (i:=6) (v:=?_) rfl (by kernel_rfl) (by kernel_rfl) (by kernel_rfl) (fun _ _ _ h=>h) (Or.inl ⟨by rfl,?_⟩) (by assumption) ?_;rotate_left
          ·intro w A;go_split_ands;go_simp;with_reducible rfl
          refine wpAnyH_take (i:=9) (v:=?_) rfl (by kernel_rfl) (by kernel_rfl) (by kernel_rfl) (fun _ _ _ h=>h) (Or.inl ⟨by rfl,?_⟩) (by assumption) ?_;rotate_left
          ·intro w A;go_simp;with_reducible rfl
          refine wpAnyH_take (i:=10) (v:=?_) rfl (by kernel_rfl) (by kernel_rfl) (by kernel_rfl) (fun _ _ _ h=>h) (Or.inl ⟨by rfl,?_⟩) (by assumption) ?_;rotate_left
          ·intro w A;go_split_ands;go_simp;with_reducible rfl
          refine wpAnyH_take (i:=13) (v:=?_) rfl (by kernel_rfl) (by kernel_rfl) (by kernel_rfl) (fun _ _ _ h=>h) (Or.inl ⟨by rfl,?_⟩) (by assumption) ?_;rotate_left
          ·intro w A;go_simp;with_reducible rfl
          refine wpAnyH_take (i:=14) (v:=?_) rfl (by kernel_rfl) (by kernel_rfl) (by kernel_rfl) (fun _ _ _ h=>h) (Or.inl ⟨by rfl,?_⟩) (by assumption) ?_;rotate_left
          ·intro w A;go_split_ands;go_simp;with_reducible rfl
          refine wpAnyH_take (i:=15) (v:=?_) rfl (by kernel_rfl) (by kernel_rfl) (by kernel_rfl) (fun _ _ _ h=>h) (Or.inl ⟨by rfl,?_⟩) (by assumption) ?_;rotate_left
          ·intro w A;go_simp;with_reducible rfl
          refine wpAnyH_ready (rs:=[3]) (by kernel_rfl) (by simp) ?_;refine AllReadyH.cons rfl (fun K hK=>?_) ?_
          ·go_simp
           refine (aK.out _).mono ?_;rintro e z1 ⟨rfl,G⟩;have o:Hid (Bw E z1):=G;clear G;refine hK.out _ _ ?_ (fun B=>?_)
           ·exact u.out _ o.out
           clear hK K F;have F:=B;clear B;refine wpAnyH_take (i:=4) (v:=?_) rfl (by kernel_rfl) (by kernel_rfl) (by kernel_rfl) (fun _ _ _ h=>h) (Or.inl ⟨by rfl,?_⟩) (by assumption) ?_;rotate_left
           ·intro w A;go_simp;with_reducible rfl
           refine wpAnyH_ready (rs:=[7]) (by kernel_rfl) (by simp) ?_;refine AllReadyH.cons rfl (fun K hK=>?_) ?_
           ·go_simp
            refine (aL.out _).mono ?_;rintro e z2 ⟨rfl,G⟩;have q:Hid (Bw E z2):=o.out.trans (G.mono o.out.size);clear G;refine hK.out _ _ ?_ (fun B=>?_)
            ·exact u.out _ q.out
            clear hK K F;have F:=B;clear B;refine wpAnyH_take (i:=8) (v:=?_) rfl (by kernel_rfl) (by kernel_rfl) (by kernel_rfl) (fun _ _ _ h=>h) (Or.inl ⟨by rfl,?_⟩) (by assumption) ?_;rotate_left
            ·intro w A;go_simp;with_reducible rfl
            refine wpAnyH_ready (rs:=[11]) (by kernel_rfl) (by simp) ?_;refine AllReadyH.cons rfl (fun K hK=>?_) ?_
            ·go_simp
             refine (aM.out _).mono ?_;rintro e z3 ⟨rfl,G⟩;have t:Hid (Bw E z3):=q.out.trans (G.mono q.out.size);clear G;refine hK.out _ _ ?_ (fun B=>?_)
             ·exact u.out _ t.out
             clear hK K F;have F:=B;clear B;refine wpAnyH_take (i:=12) (v:=?_) rfl (by kernel_rfl) (by kernel_rfl) (by kernel_rfl) (fun _ _ _ h=>h) (Or.inl ⟨by rfl,?_⟩) (by assumption) ?_;rotate_left
             ·intro w A;go_simp;with_reducible rfl
             refine wpAnyH_ready (rs:=[16]) (by kernel_rfl) (by simp) ?_;refine AllReadyH.cons rfl (fun K hK=>?_) ?_
             ·go_simp
              refine (aN.out _).mono ?_;rintro e z4 ⟨rfl,G⟩;have al:Hid (Bw E z4):=t.out.trans (G.mono t.out.size);clear G;refine hK.out _ _ ?_ (fun B=>?_)
              ·exact u.out _ al.out
              clear hK K F;have F:=B;clear B;refine wpAnyH_take (i:=17) (v:=?_) rfl (by kernel_rfl) (by kernel_rfl) (by kernel_rfl) (fun _ _ _ h=>h) (Or.inl ⟨by rfl,?_⟩) (by assumption) ?_;rotate_left
              ·intro w A;go_simp;with_reducible rfl
              refine wpAnyH_ready (rs:=[18]) (by kernel_rfl) (by simp) ?_;refine AllReadyH.cons rfl (fun K hK=>?_) ?_
              ·go_simp
               refine hK.out _ _ ?_ (fun B=>?_)
               ·exact F
               clear hK K F;have F:=B;clear B;refine wpAnyH_done (by kernel_rfl) ?_ _;have aw:Hid (Bw W z4):=ac.out.trans (al.out.mono ac.out.size);have aE:Hid (T++Q0++Q1++Q2++Q3=jii r):=O.out;rw[aE.out];have d9:=(b.out _ aw.out).2.2.2.2.2.2.2.2.2;clear F m1 m2 m3 m4 aE O N q0 q1 q2 q3;have hz:=aQ.out;go_wp2_with fail;go_loopw [4,6] (fun s i wr=>∃ k:Nat,s=.string (jhp r k)/\i=.int .i64 k/\k<=r.tens.length/\Hid (Bw W wr)) (fun _ i _=>r.tens.length-(intOf i).toNat)
               case atStart=>exact⟨0,rfl,rfl,Nat.zero_le _,aw.out⟩
               case round =>
                obtain⟨j,rfl,rfl,hj,m⟩:=hrel;obtain⟨-,hT,g,a,H⟩:=aD.out;have d9:=(b.out _ m.out).2.2.2.2.2.2.2.2.2;by_cases av:j<r.tens.length
                ·obtain⟨x,f,l,hx,rfl,au,d⟩:=(hT.below m.out).at av
                 have p0:wr.cell? ⟨f,l+j*1+0,none⟩=some (.int .u64 x):=d 0 (by omega);simp only[Nat.mul_one,Nat.add_zero] at p0;have i0:(0:Int)<=(j:Int):=by omega
                 have i1:(j:Int)<(r.tens.length:Int):=by omega
                 have hU:=a.tens x (List.mem_of_getElem? hx);have N:=jgG H j hj;have y:=jai x;have I:=jgH r hx;obtain⟨Q,hQ⟩:∃ Q,jbe x=Q:=⟨_,rfl⟩;obtain⟨T,M⟩:∃ T,jhp r j=T:=⟨_,rfl⟩;have HQ:=Lib.hid (jaJ x hU wr);rw[hQ] at HQ I y;rw[M] at I N ⊢;have m1:¬ 9223372036854775807<T.size+Q.size:=by omega
                 have aP:=Lib.hid I;clear d hx au hT g a H hU N y I hQ M;go_wp2_with fail;refine HQ.out.mono ?_;rintro e y1 ⟨rfl,G⟩;have an:Hid (Bw W y1):=m.out.trans (G.mono m.out.size);clear G;go_wp2_with fail;exact⟨⟨j+1,by rw[aP.out],by go_num,by omega,an.out⟩,by simp[intOf];omega⟩
                ·obtain rfl:j=r.tens.length:=by omega
                 have HF:Hid (Bw w wr):=g.trans (m.out.mono g.size);clear hT g a H;go_wp2_with fail;go_ret2;exact⟨rfl,HF.out⟩
              exact AllReadyH.nil
             exact AllReadyH.nil
            exact AllReadyH.nil
           exact AllReadyH.nil
          exact AllReadyH.nil
       exact AllReadyH.nil
      exact AllReadyH.nil
     exact AllReadyH.nil
    exact AllReadyH.nil
   exact AllReadyH.nil
  exact AllReadyH.nil
 exact AllReadyH.nil
theorem jeh (r:Rq) (I:Option Addr) (X:Nat) (ta:Option Addr) (Y:Nat) (G:Option Addr) (J:Nat) (ka:Option Addr) (L:Nat) (w:World) (U:r.Wf) (Z:SlE ja1 2 w.heap.size w I r.items.length r.items) (c:SlE jca 1 w.heap.size w ta r.tens.length r.tens) (a:SlE ja1 2 w.heap.size w G r.items.length r.items) (hK:SlE jca 1 w.heap.size w ka r.tens.length r.tens) (B:r.ok=true) :
  CR 19 #[.agg (rqV r I X ta Y),.agg (rqV r G J ka L)] w (.bool true):=by
 obtain⟨W,n,Q,R,C,T⟩:=jbq w (rqV r I X ta Y) 48 (rqV r G J ka L) 48;have N:=Lib.hid (jbv r I X ta Y W U (Z.go C) (c.go C) B);have O:=Lib.hid fun V (H:Bw W V)=>jbv r G J ka L V U ((a.go C).go H) ((hK.go C).go H) B
 unfold rqV at Q R n N O ⊢;obtain⟨f,g,i,c3,c4,c5,j,k,l,m⟩:=jb3 Q;have d:Hid (∀ V,Bw W V->V.heap[w.heap.size+1]? = some (.cells #[.int .i64 r.op,.int .u64 r.now,.string r.labels,.string r.scope,.int .i64 r.kind,.slice G r.items.length J,.int .u64 r.h,.int .u64 r.tnt,.int .u64 r.id,.slice ka r.tens.length L] 48 (0,0))):=fun V H=>known H (Nat.le_refl _) R
 have E:=Lib.hid C;obtain⟨S,b⟩:∃ S,jhp r r.tens.length=S:=⟨_,rfl⟩;rw[b] at N O;clear Q R C T Z c a hK U B b;go_enter Tryz.func19,Tryz.ntmps19;go_wp2_with fail;refine N.out.mono ?_;rintro e o ⟨rfl,A⟩;have F:=d.out _ A;obtain⟨q,s,t,u,v,x,y,z,d8,d9⟩:=jb3 F;have P:=Lib.hid (O.out _ A);have D:Hid (Bw w o):=E.out.trans (A.mono E.out.size);clear A F f g i c3 c4 c5 j k l m;go_wp2_with fail;refine P.out.mono ?_;rintro e p ⟨rfl,A⟩;have M:Hid (Bw w p):=D.out.trans (A.mono D.out.size);clear A;go_wp2_with fail;go_ret;exact⟨rfl,M.out⟩
def jf2 (n:Nat) (s:ByteArray):ByteArray:=s.extract 0 (min s.size n)
theorem jbW (n:Nat) (s:ByteArray):(jf2 n s).size<=n:=by unfold jf2;rw[ByteArray.size_extract];omega
theorem jf0 (s:ByteArray) (w:World):Calls Tryz.prog 9 #[.string s] w fun e A=>e=.returned (.string (jf2 2010 s))/\A=w:=by
 have B:(min (s.size:Int) 2010).toNat=min s.size 2010:=by omega
 unfold jf2;go_enter Tryz.func9,Tryz.ntmps9;go_wp2_with fail;go_ret;exact⟨rfl,rfl⟩
def jf5 (r:Rq):Rq:={ r with labels:=jf2 410 r.labels,scope:=jf2 410 r.scope,items:=r.items.take 52,tens:=r.tens.take 10 }
theorem jgL (a:Option Addr) (len cap m:Nat) (w:World) (h:m<=cap):(Instr.slice 46 (.slice a len cap) none (some (.int .i64 (m:Int))) none).run Tryz.prog w=.ok (.slice a m cap) w:=by
 have B:=jb8 a cap 1;unfold jdj at B;have C:(sizeOf 22).run Tryz.prog w=.ok 1 w:=by kernel_rfl
 have A:Tryz.prog.elem 46=22:=by kernel_rfl
 rw[run_slice_h (t:=46) (a:=a) (len:=len) (cap:=cap) (w:=w) (ht:=by rw[A];exact jdA) (kh:=.i64) (h:=(m:Int)) (by omega) (by omega),A,C];simp only[Result.andThen,sliced,Int.toNat_natCast,Nat.sub_zero,B]
theorem jfM (r:Rq) (C:Option Addr) (A:Nat) (ta:Option Addr) (B:Nat) (w:World) (n:r.items.length<=A) (q:r.tens.length<=B) :
  CR 13 #[.agg (rqV r C A ta B)] w (.agg (rqV (jf5 r) C A ta B)):=by
 obtain⟨s,b⟩:∃ m,min r.labels.size 410=m:=⟨_,rfl⟩;obtain⟨t,c⟩:∃ m,min r.scope.size 410=m:=⟨_,rfl⟩;obtain⟨O,d⟩:∃ m,min r.items.length 52=m:=⟨_,rfl⟩;obtain⟨P,e⟩:∃ m,min r.tens.length 10=m:=⟨_,rfl⟩;have e1:(min (r.labels.size:Int) 410).toNat=s:=by omega
 have e2:(min (r.scope.size:Int) 410).toNat=t:=by omega
 have e3:min (r.items.length:Int) 52=(O:Int):=by omega
 have e4:min (r.tens.length:Int) 10=(P:Int):=by omega
 have t3:=fun W=>jfD C r.items.length A O W (by omega)
 have t4:=fun W=>jgL ta r.tens.length B P W (by omega)
 have x:rqV (jf5 r) C A ta B=#[.int .i64 r.op,.int .u64 r.now,.string (r.labels.extract 0 s),.string (r.scope.extract 0 t),.int .i64 r.kind,.slice C O A,.int .u64 r.h,.int .u64 r.tnt,.int .u64 r.id,.slice ta P B]:=by
  unfold rqV jf5 jf2;dsimp only;rw[b,c,List.length_take,List.length_take,Nat.min_comm 52,Nat.min_comm 10,d,e]
 rw[x];obtain⟨L,hL⟩:∃ L,r.labels.extract 0 s=L:=⟨_,rfl⟩;obtain⟨S,hS⟩:∃ S,r.scope.extract 0 t=S:=⟨_,rfl⟩;rw[hL,hS];obtain⟨W,hW,D,Z,u,o⟩:=jbq w (rqV r C A ta B) 48 #[.int .i64 0,.int .u64 0,.string ⟨#[]⟩,.string ⟨#[]⟩,.int .i64 0,.slice none 0 0,.int .u64 0,.int .u64 0,.int .u64 0,.slice none 0 0] 48;unfold rqV at D hW ⊢;obtain⟨c0,c1,c2,c3,c4,c5,c6,c7,c8,c9⟩:=jb3 D;have f2:W.frozen? ⟨w.heap.size,2,none⟩=false:=cFz D 2;have f:Bw w W/\W.heap[w.heap.size+1]? = some (.cells #[.int .i64 0,.int .u64 0,.string ⟨#[]⟩,.string ⟨#[]⟩,.int .i64 0,.slice none 0 0,.int .u64 0,.int .u64 0,.int .u64 0,.slice none 0 0] 48 (0,0)):=⟨u,Z⟩;obtain⟨Q,I⟩:∃ V,W.setCell ⟨w.heap.size,2,none⟩ (.string L)=V:=⟨_,rfl⟩;have F:Q.heap[w.heap.size]? = some (.cells #[.int .i64 r.op,.int .u64 r.now,.string L,.string r.scope,.int .i64 r.kind,.slice C r.items.length A,.int .u64 r.h,.int .u64 r.tnt,.int .u64 r.id,.slice ta r.tens.length B] 48 (0,0)):=by rw[<- I];exact hSk D _
 have g:Bw w Q/\Q.heap[w.heap.size+1]? = some (.cells #[.int .i64 0,.int .u64 0,.string ⟨#[]⟩,.string ⟨#[]⟩,.int .i64 0,.slice none 0 0,.int .u64 0,.int .u64 0,.int .u64 0,.slice none 0 0] 48 (0,0)):=by rw[<- I];exact⟨f.1.setCell (p:=⟨w.heap.size,2,none⟩) (Nat.le_refl _) _,(Below.heap_setCell _ _ _ _ (by show w.heap.size+1≠w.heap.size;omega)).trans f.2⟩
 have y:Q.cell? ⟨w.heap.size,3,none⟩=some (.string r.scope):=cCc F 3;have g0:Q.frozen? ⟨w.heap.size,3,none⟩=false:=cFz F 3;obtain⟨R,J⟩:∃ V,Q.setCell ⟨w.heap.size,3,none⟩ (.string S)=V:=⟨_,rfl⟩;have G:R.heap[w.heap.size]? = some (.cells #[.int .i64 r.op,.int .u64 r.now,.string L,.string S,.int .i64 r.kind,.slice C r.items.length A,.int .u64 r.h,.int .u64 r.tnt,.int .u64 r.id,.slice ta r.tens.length B] 48 (0,0)):=by rw[<- J];exact hSk F _
 have i:Bw w R/\R.heap[w.heap.size+1]? = some (.cells #[.int .i64 0,.int .u64 0,.string ⟨#[]⟩,.string ⟨#[]⟩,.int .i64 0,.slice none 0 0,.int .u64 0,.int .u64 0,.int .u64 0,.slice none 0 0] 48 (0,0)):=by rw[<- J];exact⟨g.1.setCell (p:=⟨w.heap.size,3,none⟩) (Nat.le_refl _) _,(Below.heap_setCell _ _ _ _ (by show w.heap.size+1≠w.heap.size;omega)).trans g.2⟩
 have z:R.cell? ⟨w.heap.size,5,none⟩=some (.slice C r.items.length A):=cCc G 5;have g1:R.frozen? ⟨w.heap.size,5,none⟩=false:=cFz G 5;obtain⟨T,M⟩:∃ V,R.setCell ⟨w.heap.size,5,none⟩ (.slice C O A)=V:=⟨_,rfl⟩;have H:T.heap[w.heap.size]? = some (.cells #[.int .i64 r.op,.int .u64 r.now,.string L,.string S,.int .i64 r.kind,.slice C O A,.int .u64 r.h,.int .u64 r.tnt,.int .u64 r.id,.slice ta r.tens.length B] 48 (0,0)):=by rw[<- M];exact hSk G _
 have j:Bw w T/\T.heap[w.heap.size+1]? = some (.cells #[.int .i64 0,.int .u64 0,.string ⟨#[]⟩,.string ⟨#[]⟩,.int .i64 0,.slice none 0 0,.int .u64 0,.int .u64 0,.int .u64 0,.slice none 0 0] 48 (0,0)):=by rw[<- M];exact⟨i.1.setCell (p:=⟨w.heap.size,5,none⟩) (Nat.le_refl _) _,(Below.heap_setCell _ _ _ _ (by show w.heap.size+1≠w.heap.size;omega)).trans i.2⟩
 have aa:T.cell? ⟨w.heap.size,9,none⟩=some (.slice ta r.tens.length B):=cCc H 9;have g2:T.frozen? ⟨w.heap.size,9,none⟩=false:=cFz H 9;obtain⟨l,N⟩:∃ V,T.setCell ⟨w.heap.size,9,none⟩ (.slice ta P B)=V:=⟨_,rfl⟩;have a:l.heap[w.heap.size]? = some (.cells #[.int .i64 r.op,.int .u64 r.now,.string L,.string S,.int .i64 r.kind,.slice C O A,.int .u64 r.h,.int .u64 r.tnt,.int .u64 r.id,.slice ta P B] 48 (0,0)):=by rw[<- N];exact hSk H _
 have k:Bw w l/\l.heap[w.heap.size+1]? = some (.cells #[.int .i64 0,.int .u64 0,.string ⟨#[]⟩,.string ⟨#[]⟩,.int .i64 0,.slice none 0 0,.int .u64 0,.int .u64 0,.int .u64 0,.slice none 0 0] 48 (0,0)):=by rw[<- N];exact⟨j.1.setCell (p:=⟨w.heap.size,9,none⟩) (Nat.le_refl _) _,(Below.heap_setCell _ _ _ _ (by show w.heap.size+1≠w.heap.size;omega)).trans j.2⟩
 obtain⟨ab,ac,ad,ae,af,ag,ah,ai,aj,ak⟩:=jb3 a;have E:=k.2;obtain⟨ax,ay,az,aA,aB,aC,aD,aE,aF,aG⟩:=jiM E;obtain⟨al,am,an,ao,ap,aq,ar,au,av,aw⟩:=jb3 E;obtain⟨U,hU,Y,X,-⟩:=jek (.int .i64 r.op) (.int .u64 r.now) (.string L) (.string S) (.int .i64 r.kind) (.slice C O A) (.int .u64 r.h) (.int .u64 r.tnt) (.int .u64 r.id) (.slice ta P B) E k.1 (Nat.le_succ _);obtain⟨u0,u1,u2,u3,u4,u5,u6,u7,u8,u9⟩:=jb3 Y;have HF:=Lib.hid X;clear D Z u o f g i j k F G H a E Y X b c d e x n q;go_enter Tryz.func13,Tryz.ntmps13;go_wp2_with fail;exact bodyPost_ret (v:=.agg #[.int .i64 r.op,.int .u64 r.now,.string L,.string S,.int .i64 r.kind,.slice C O A,.int .u64 r.h,.int .u64 r.tnt,.int .u64 r.id,.slice ta P B]) (by simp[results,Tryz.results13,go_sem,u0,u1,u2,u3,u4,u5,u6,u7,u8,u9]) rfl ⟨rfl,HF.out⟩
end Go.Proofs.YtlmlcadcdhhlcaaGreatDoor
