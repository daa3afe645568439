/- Package tenant: what a tenant is in memory; frames of several blocks. A nil tenant; tenant.Cost, Audit, New. aviarylaw18.TenantNone answers true. -/
import Derived.Test.YtnegciklhanmbaaGreatDoorZUNS1
set_option maxHeartbeats 4000000
set_option maxRecDepth 100000
namespace Go.Proofs.YtnegciklhanmbaaGreatDoor
open Go Go.RowKit Go.Shelf
theorem jeX (w:World):Calls Tryz.prog 26 #[.pointer none] w fun e w'=>e=.returned (.bool true)/\w'=w:=by
 go_enter Tryz.func26,Tryz.ntmps26;go_wp2_with fail;go_ret;exact⟨rfl,rfl⟩
theorem jk8 (F text N:Value) (w:World):CR 19 #[.pointer none,F,text,N] w (.int .i64 1):=by
 obtain⟨H,J,E,A,B,M⟩:=jas w #[.pointer none] 24 #[.int .i64 0] 26;have O:=cCc E 0;have I:=cCc A 0;have P:=cFz A 0;simp at O I;obtain⟨V,Q,D,-,C,-⟩:=jbT (i:=0) A (.int .i64 1);have G:Hid (Bw w V):=C _ _ (by omega) B;have L:V.cell? ⟨w.heap.size+1,0,none⟩=some (.int .i64 1):=cCc D 0;clear E A D C B;go_enter_defers Tryz.func19,Tryz.ntmps19;go_wp2_with (go_at_call 26;refine (jeX H).mono ?_;rintro e R ⟨rfl,rfl⟩);simp[bodyPostD,Leaves,results,Tryz.f19,go_sem,L];exact G.out
theorem js7 (A text:Value) (w:World):CR 13 #[.pointer none,A,text] w (.int .i64 1):=by
 have B:=Lib.hid (fun a b c W=>jk8 a b c W);go_enter Tryz.func13,Tryz.ntmps13;go_wp2_with (go_at_call 19;refine (B.out _ _ _ _).mono ?_;rintro e C ⟨rfl,hb⟩);go_ret;exact⟨rfl,hb⟩
theorem jsZ (w:World):Calls Tryz.prog 15 #[.pointer none] w fun e w'=>e=.returned (.int .i64 0)/\w'=w:=by
 go_enter Tryz.func15,Tryz.ntmps15;go_wp2_with (go_at_call 26;refine (jeX w).mono ?_;rintro e A ⟨rfl,rfl⟩);go_ret;exact⟨rfl,rfl⟩
theorem jpN (q:Value) (w:World):Calls Tryz.prog 14 #[.pointer none,q] w fun e w'=>e=.returned (.slice none 0 0)/\w'=w:=by
 go_enter Tryz.func14,Tryz.ntmps14;go_wp2_with (go_at_call 26;refine (jeX w).mono ?_;rintro e A ⟨rfl,rfl⟩);go_ret;exact⟨rfl,rfl⟩
theorem jpZ (w:World):Calls Tryz.prog 16 #[.pointer none] w fun e w'=>e=.returned (.slice none 0 0)/\w'=w:=by
 go_enter Tryz.func16,Tryz.ntmps16;go_wp2_with (go_at_call 26;refine (jeX w).mono ?_;rintro e A ⟨rfl,rfl⟩);go_ret;exact⟨rfl,rfl⟩
theorem jol (F:Int) (s:ByteArray) (kind:Int) (I:Option Addr) (n J:Nat) (w:World):CR 6 #[.pointer none,.int .u64 F,.string s,.int .i64 kind,.slice I n J] w (.tuple #[.slice none 0 0,.int .i64 1]):=by
 have Q:∀ (H:Fn) (first cap:Array Value) (w:World),(Instr.makeFunc H first cap).run Tryz.prog w=.ok (.func H first cap) w:=fun _ _ _ _=>rfl
 have M:=Lib.hid (fun a b c W=>jk8 a b c W);obtain⟨N,O,D,-,-,A,R⟩:=jbF w #[.pointer none] 24 #[.string s] 9 #[.int .i64 kind] 3;obtain⟨G,P,-,-,B,S⟩:=jas N #[.slice I n J] 58 #[.slice none 0 0] 25;have T:=cCc (known B (Nat.le_refl _) D) 0;simp at T;have C:=A.trans (B.mono A.size);have L:Hid (∀ o E,Below (G.alloc o).heap.size (G.alloc o) E->Bw w E):=fun o E h=>(C.alloc C.size o).trans (h.mono (C.alloc C.size o).size)
 clear D A B C;go_enter Tryz.func6,Tryz.ntmps6;go_wp2_with (go_at_call 19;refine (M.out _ _ _ _).mono ?_;rintro e E ⟨rfl,hb⟩);exact bodyPost_ret (v:=.tuple #[.slice none 0 0,.int .i64 1]) (by simp[results,Tryz.results6,go_sem]) rfl ⟨rfl,L.out _ _ hb⟩
theorem jpW (F:Int) (s:ByteArray) (kind I:Int) (w:World):CR 8 #[.pointer none,.int .u64 F,.string s,.int .i64 kind,.int .u64 I] w (.tuple #[.int .u64 0,.int .i64 1]):=by
 have P:∀ (H:Fn) (first cap:Array Value) (w:World),(Instr.makeFunc H first cap).run Tryz.prog w=.ok (.func H first cap) w:=fun _ _ _ _=>rfl
 have L:=Lib.hid (fun a b c W=>jk8 a b c W);obtain⟨M,N,D,-,-,A,Q⟩:=jbF w #[.pointer none] 24 #[.string s] 9 #[.int .i64 kind] 3;obtain⟨G,O,-,-,B,R⟩:=jas M #[.int .u64 I] 22 #[.int .u64 0] 22;have S:=cCc (known B (Nat.le_refl _) D) 0;simp at S;have C:=A.trans (B.mono A.size);have J:Hid (∀ o E,Below (G.alloc o).heap.size (G.alloc o) E->Bw w E):=fun o E h=>(C.alloc C.size o).trans (h.mono (C.alloc C.size o).size)
 clear D A B C;go_enter Tryz.func8,Tryz.ntmps8;go_wp2_with (go_at_call 19;refine (L.out _ _ _ _).mono ?_;rintro e E ⟨rfl,hb⟩);exact bodyPost_ret (v:=.tuple #[.int .u64 0,.int .i64 1]) (by simp[results,Tryz.results8,go_sem]) rfl ⟨rfl,J.out _ _ hb⟩
theorem jpP (F I:Int) (s:ByteArray) (w:World):CR 9 #[.pointer none,.int .u64 F,.int .u64 I,.string s] w (.tuple #[.int .u64 0,.int .i64 1]):=by
 have P:∀ (H:Fn) (first cap:Array Value) (w:World),(Instr.makeFunc H first cap).run Tryz.prog w=.ok (.func H first cap) w:=fun _ _ _ _=>rfl
 have L:=Lib.hid (fun a b c W=>jk8 a b c W);obtain⟨M,N,D,-,A,Q⟩:=jas w #[.pointer none] 24 #[.int .u64 I] 22;obtain⟨G,O,-,-,B,R⟩:=jas M #[.string s] 9 #[.int .u64 0] 22;have S:=cCc (known B (Nat.le_refl _) D) 0;simp at S;have C:=A.trans (B.mono A.size);have J:Hid (∀ o E,Below (G.alloc o).heap.size (G.alloc o) E->Bw w E):=fun o E h=>(C.alloc C.size o).trans (h.mono (C.alloc C.size o).size)
 clear D A B C;go_enter Tryz.func9,Tryz.ntmps9;go_wp2_with (go_at_call 19;refine (L.out _ _ _ _).mono ?_;rintro e E ⟨rfl,hb⟩);exact bodyPost_ret (v:=.tuple #[.int .u64 0,.int .i64 1]) (by simp[results,Tryz.results9,go_sem]) rfl ⟨rfl,J.out _ _ hb⟩
theorem joo (D G:Int) (w:World):CR 12 #[.pointer none,.int .u64 D,.int .u64 G] w (.int .i64 1):=by
 have L:∀ (F:Fn) (first cap:Array Value) (w:World),(Instr.makeFunc F first cap).run Tryz.prog w=.ok (.func F first cap) w:=fun _ _ _ _=>rfl
 have I:=Lib.hid (fun a b c W=>jk8 a b c W);obtain⟨E,J,B,-,A,M⟩:=jas w #[.pointer none] 24 #[.int .u64 G] 22;have N:=cCc B 0;simp at N;have H:Hid (∀ o C,Below (E.alloc o).heap.size (E.alloc o) C->Bw w C):=fun o C h=>(A.alloc A.size o).trans (h.mono (A.alloc A.size o).size)
 clear B A;go_enter Tryz.func12,Tryz.ntmps12;go_wp2_with (go_at_call 19;refine (I.out _ _ _ _).mono ?_;rintro e C ⟨rfl,hb⟩);go_ret;exact⟨rfl,H.out _ _ hb⟩
theorem jvT (s:ByteArray) (kind:Int) (w:World):CR 11 #[.pointer none,.string s,.int .i64 kind] w (.tuple #[.agg #[.int .i64 0,.int .i64 0,.slice none 0 0,.int .i64 0,.string ⟨#[]⟩,.int .i64 0,.int .i64 0,.slice none 0 0,.int .i64 0,.slice none 0 0],.int .i64 1]):=by
 obtain⟨G,H,A,B,I⟩:=jab w #[.int .i64 0,.int .i64 0,.slice none 0 0,.int .i64 0,.string ⟨#[]⟩,.int .i64 0,.int .i64 0,.slice none 0 0,.int .i64 0,.slice none 0 0] 44;obtain⟨U,c1,c2,c3,c4,c5,X,Y,Z,a⟩:=jbg A;obtain⟨b,c,d,f,g,h,i,j,k,l⟩:=jft A;obtain⟨V,m,D,E,C⟩:=ja9 (.int .i64 0) (.int .i64 0) (.slice none 0 0) (.int .i64 0) (.string ⟨#[]⟩) (.int .i64 0) (.int .i64 0) (.slice none 0 0) (.int .i64 0) (.slice none 0 0) A;have F:Hid (Bw w V):=C _ _ B (Nat.le_refl _);obtain⟨J,L,M,N,O,P,Q,R,S,T⟩:=jbg D;clear A B D E C;go_enter Tryz.func11,Tryz.ntmps11;go_wp2_with (go_at_call 26;refine (jeX G).mono ?_;rintro e n ⟨rfl,rfl⟩);exact bodyPost_ret (v:=.tuple #[.agg #[.int .i64 0,.int .i64 0,.slice none 0 0,.int .i64 0,.string ⟨#[]⟩,.int .i64 0,.int .i64 0,.slice none 0 0,.int .i64 0,.slice none 0 0],.int .i64 1]) (by simp[results,Tryz.results11,go_sem,J,L,M,N,O,P,Q,R,S,T]) rfl ⟨rfl,F.out⟩
theorem js6 (U:Int) (s:ByteArray) (kind:Int) (w:World):CR 10 #[.pointer none,.int .u64 U,.string s,.int .i64 kind] w (.tuple #[.agg #[.int .i64 0,.int .i64 0,.slice none 0 0,.int .i64 0,.string ⟨#[]⟩,.int .i64 0,.int .i64 0,.slice none 0 0,.int .i64 0,.slice none 0 0],.int .i64 1]):=by
 obtain⟨G,H,A,B,I⟩:=jab w #[.int .i64 0,.int .i64 0,.slice none 0 0,.int .i64 0,.string ⟨#[]⟩,.int .i64 0,.int .i64 0,.slice none 0 0,.int .i64 0,.slice none 0 0] 44;obtain⟨X,c1,c2,c3,c4,c5,Y,Z,a,b⟩:=jbg A;obtain⟨c,d,f,g,h,i,j,k,l,m⟩:=jft A;obtain⟨V,n,D,E,C⟩:=ja9 (.int .i64 0) (.int .i64 0) (.slice none 0 0) (.int .i64 0) (.string ⟨#[]⟩) (.int .i64 0) (.int .i64 0) (.slice none 0 0) (.int .i64 0) (.slice none 0 0) A;have F:Hid (Bw w V):=C _ _ B (Nat.le_refl _);obtain⟨J,L,M,N,O,P,Q,R,S,T⟩:=jbg D;clear A B D E C;go_enter Tryz.func10,Tryz.ntmps10;go_wp2_with (go_at_call 26;refine (jeX G).mono ?_;rintro e o ⟨rfl,rfl⟩);exact bodyPost_ret (v:=.tuple #[.agg #[.int .i64 0,.int .i64 0,.slice none 0 0,.int .i64 0,.string ⟨#[]⟩,.int .i64 0,.int .i64 0,.slice none 0 0,.int .i64 0,.slice none 0 0],.int .i64 1]) (by simp[results,Tryz.results10,go_sem,J,L,M,N,O,P,Q,R,S,T]) rfl ⟨rfl,F.out⟩
theorem jx6 (w:World):∃ W V,w.alloc (.cells #[.int .i64 0,.int .i64 0,.slice none 0 0,.int .i64 0,.string ⟨#[]⟩,.int .i64 0,.int .i64 0,.slice none 0 0,.int .i64 0,.slice none 0 0] 44)=W/\(((((((((W.setCell ⟨w.heap.size,0,none⟩ (.int .i64 0)).setCell ⟨w.heap.size,1,none⟩ (.int .i64 0)).setCell ⟨w.heap.size,2,none⟩ (.slice none 0 0)).setCell ⟨w.heap.size,3,none⟩ (.int .i64 0)).setCell ⟨w.heap.size,4,none⟩ (.string ⟨#[]⟩)).setCell ⟨w.heap.size,5,none⟩ (.int .i64 0)).setCell ⟨w.heap.size,6,none⟩ (.int .i64 0)).setCell ⟨w.heap.size,7,none⟩ (.slice none 0 0)).setCell ⟨w.heap.size,8,none⟩ (.int .i64 0)).setCell ⟨w.heap.size,9,none⟩ (.slice none 0 0)=V/\W.heap[w.heap.size]? = some (.cells #[.int .i64 0,.int .i64 0,.slice none 0 0,.int .i64 0,.string ⟨#[]⟩,.int .i64 0,.int .i64 0,.slice none 0 0,.int .i64 0,.slice none 0 0] 44 (0,0))/\Hid (Bw w V):=by
 obtain⟨W,E,B,C,-⟩:=jab w #[.int .i64 0,.int .i64 0,.slice none 0 0,.int .i64 0,.string ⟨#[]⟩,.int .i64 0,.int .i64 0,.slice none 0 0,.int .i64 0,.slice none 0 0] 44;obtain⟨V,D,-,-,A⟩:=ja9 (.int .i64 0) (.int .i64 0) (.slice none 0 0) (.int .i64 0) (.string ⟨#[]⟩) (.int .i64 0) (.int .i64 0) (.slice none 0 0) (.int .i64 0) (.slice none 0 0) B;exact⟨W,V,E,D,B,A _ _ C (Nat.le_refl _)⟩
theorem jiy (D:Int) (s t:ByteArray) (kind:Int) (w:World) (_h0:U64 D) (_h3:I64 kind) (Q:GW w) (R:GT w):CR 3 #[.int .u64 D,.string s,.string t,.int .i64 kind] w (.bool true):=by
 have O:=Lib.hid (jhZ w Q R);have U:=Lib.hid (fun s W=>jk5 s W);have X:=Lib.hid (fun D s kind ia n ic W=>jol D s kind ia n ic W);have b:=Lib.hid (fun D s kind hh W=>jpW D s kind hh W);have L:=Lib.hid (fun D N s W=>jpP D N s W);have Y:=Lib.hid (fun N s kind W=>js6 N s kind W);have a:=Lib.hid (fun s kind W=>jvT s kind W);have c:=Lib.hid (fun D id W=>joo D id W);have Z:=Lib.hid (fun D text W=>js7 D text W);have S:=Lib.hid (fun q W=>jpN q W);have J:=Lib.hid (fun W=>jsZ W);have M:=Lib.hid (fun W=>jpZ W);clear Q R;obtain⟨w0,P⟩:∃ w0,w0=w:=⟨_,rfl⟩;have T:Hid (Bw w w0):=by rw[P];exact .refl _ _
 have E:Hid (∀ A B,Bw w A->Bw A B->Bw w B):=fun A B h z=>h.trans (z.mono h.size)
 go_enter Tryz.func3,Tryz.ntmps3;go_wp2_with fail;refine O.out.mono ?_;rintro e w1 ⟨rfl,I⟩;have C:=Lib.hid I;clear I O T P
 go_wp2_with
  (first
   | (go_at_call 7;refine (U.out _ _).mono ?_;rintro e F ⟨rfl,hb⟩;replace C:=Lib.hid (E.out _ _ C.out hb);clear hb)
   | (go_at_call 6;refine (X.out _ _ _ _ _ _ _).mono ?_;rintro e F ⟨rfl,hb⟩;replace C:=Lib.hid (E.out _ _ C.out hb);clear hb)
   | (go_at_call 8;refine (b.out _ _ _ _ _).mono ?_;rintro e F ⟨rfl,hb⟩;replace C:=Lib.hid (E.out _ _ C.out hb);clear hb)
   | (go_at_call 9;refine (L.out _ _ _ _).mono ?_;rintro e F ⟨rfl,hb⟩;replace C:=Lib.hid (E.out _ _ C.out hb);clear hb)
   | (go_at_call 12;refine (c.out _ _ _).mono ?_;rintro e F ⟨rfl,hb⟩;replace C:=Lib.hid (E.out _ _ C.out hb);clear hb)
   | (go_at_call 13;refine (Z.out _ _ _).mono ?_;rintro e F ⟨rfl,hb⟩;replace C:=Lib.hid (E.out _ _ C.out hb);clear hb)
   | (go_at_call 14;refine (S.out _ _).mono ?_;rintro e F ⟨rfl,rfl⟩)
   | (go_at_call 15;refine (J.out _).mono ?_;rintro e F ⟨rfl,rfl⟩)
   | (go_at_call 16;refine (M.out _).mono ?_;rintro e F ⟨rfl,rfl⟩)
   | (go_at_call 10
      refine (Y.out _ _ _ _).mono ?_;rintro e F ⟨rfl,hb⟩;replace C:=Lib.hid (E.out _ _ C.out hb);obtain⟨W,V,hW,hV,H,G⟩:=jx6 F;obtain⟨d,c1,c2,c3,c4,c5,f,g,i,j⟩:=jbg H;obtain⟨k,l,m,o,p,r,u,v,x,y⟩:=jft H;replace C:=Lib.hid (E.out _ _ C.out G.out);clear hb H G)
   | (go_at_call 11
      refine (a.out _ _ _).mono ?_;rintro e F ⟨rfl,hb⟩;replace C:=Lib.hid (E.out _ _ C.out hb);obtain⟨W,V,hW,hV,H,G⟩:=jx6 F;obtain⟨d,c1,c2,c3,c4,c5,f,g,i,j⟩:=jbg H;obtain⟨k,l,m,o,p,r,u,v,x,y⟩:=jft H;replace C:=Lib.hid (E.out _ _ C.out G.out);clear hb H G))
 go_ret;exact⟨rfl,C.out⟩
end Go.Proofs.YtnegciklhanmbaaGreatDoor
