/- The proof that VersionsLists holds for every input, without conditions: part 3 of 5. -/
import Derived.Test.YtcelmhkpcdhneaaGreatZ2
import Derived.Shelf.SlSortCmp.NoneTotal
import Derived.Shelf.SlLaysF0
namespace Go.Proofs.YtcelmhkpcdhneaaGreat
open Go.Own
attribute [local irreducible] St Ops Go.Own.Fin Ok OkB OkN OkT OkL OkF
def b01 (b : Bool) : Int := if b then 1 else 0
def rsO6 (x : Rs) : List Int := [x.tm, x.va, x.ru, x.nu, IntKind.i64.wrap (x.dst.val : Int), x.pr, x.fl, x.tt, b01 x.an, b01 x.db, x.bk, IntKind.i64.wrap (x.fr.val : Int), x.ki, x.co, x.le, x.id]
def rsO (x : Rs) : List Int := [x.tm, x.va, x.ru, x.nu, IntKind.i64.wrap (x.dst.val : Int), x.pr, x.fl, x.tt, b01 x.an, b01 x.db, x.bk, IntKind.i64.wrap (x.fr.val : Int), x.ki, x.co, x.le, x.id, x.qu]
def cmpR (x y : Rs) : Int := cmpL (rsO x) (rsO y)
theorem b01_inj {a b : Bool} (h : b01 a = b01 b) : a = b := by cases a <;> cases b <;> first | rfl | cases h
theorem rsO_inj {x y : Rs} (h : rsO x = rsO y) : x = y := by
  obtain ⟨a1, a2, a3, a4, a5, a6, a7, a8, a9, a10, a11, a12, a13, a14, a15, a16, a17⟩ := x
  obtain ⟨c1, c2, c3, c4, c5, c6, c7, c8, c9, c10, c11, c12, c13, c14, c15, c16, c17⟩ := y
  simp only [rsO, wrap_fin, List.cons.injEq, and_true, Int.ofNat_inj, Fin.val_inj] at h
  obtain ⟨h1, h2, h3, h4, h5, h6, h7, h8, h9, h10, h11, h12, h13, h14, h15, h16, h17⟩ := h
  subst h1 h2 h3 h4 h5 h6 h7 h8 h11 h12 h13 h14 h15 h16 h17
  rw [b01_inj h9, b01_inj h10]
theorem aPairs17 : ArrT Tryz.prog 124 122 17 2 (.agg #[.int .i64 0, .int .i64 0, .int .i64 0, .int .i64 0, .int .i64 0, .int .i64 0, .int .i64 0, .int .i64 0, .int .i64 0, .int .i64 0, .int .i64 0, .int .i64 0, .int .i64 0, .int .i64 0, .int .i64 0, .int .i64 0, .int .i64 0, .int .i64 0, .int .i64 0, .int .i64 0, .int .i64 0, .int .i64 0, .int .i64 0, .int .i64 0, .int .i64 0, .int .i64 0, .int .i64 0, .int .i64 0, .int .i64 0, .int .i64 0, .int .i64 0, .int .i64 0, .int .i64 0, .int .i64 0]) := ⟨Tryz.underlying124, by kernel_rfl, by kernel_rfl⟩
theorem aPairs16 : ArrT Tryz.prog 125 122 16 2 (.agg #[.int .i64 0, .int .i64 0, .int .i64 0, .int .i64 0, .int .i64 0, .int .i64 0, .int .i64 0, .int .i64 0, .int .i64 0, .int .i64 0, .int .i64 0, .int .i64 0, .int .i64 0, .int .i64 0, .int .i64 0, .int .i64 0, .int .i64 0, .int .i64 0, .int .i64 0, .int .i64 0, .int .i64 0, .int .i64 0, .int .i64 0, .int .i64 0, .int .i64 0, .int .i64 0, .int .i64 0, .int .i64 0, .int .i64 0, .int .i64 0, .int .i64 0, .int .i64 0]) := ⟨Tryz.underlying125, by kernel_rfl, by kernel_rfl⟩
theorem szPairs17 : (Tryz.prog.info? 124).map (·.size) = some 34 := by kernel_rfl
theorem zvPairs17 : (Tryz.prog.info? 124).map (·.zero) = some (some (.agg #[.int .i64 0, .int .i64 0, .int .i64 0, .int .i64 0, .int .i64 0, .int .i64 0, .int .i64 0, .int .i64 0, .int .i64 0, .int .i64 0, .int .i64 0, .int .i64 0, .int .i64 0, .int .i64 0, .int .i64 0, .int .i64 0, .int .i64 0, .int .i64 0, .int .i64 0, .int .i64 0, .int .i64 0, .int .i64 0, .int .i64 0, .int .i64 0, .int .i64 0, .int .i64 0, .int .i64 0, .int .i64 0, .int .i64 0, .int .i64 0, .int .i64 0, .int .i64 0, .int .i64 0, .int .i64 0])) := by kernel_rfl
theorem lPairs17 : LdN Tryz.prog 124 34 := LdN.of _ Tryz.underlying124 rfl (by kernel_rfl)
theorem ZV : InGo Tryz.prog 79 := InGo.of Tryz.func79 rfl (by decide)
theorem gobit : InGo Tryz.prog 81 := InGo.of Tryz.func81 rfl (by decide)
theorem gorless : InGo Tryz.prog 82 := InGo.of Tryz.func82 rfl (by decide)
theorem Zx (b : Bool) : Ok Tryz.prog 79 [boolC b] (intC (b01 b)) := by
  refine Ok.enter Tryz.func79 rfl _ Tryz.ntmps79 rfl ?_
  intro S w
  cases b with
  | true =>
    (refine Qw (Qx fun K hK => ?_); refine Qy rfl rfl rfl ?_; refine Qv (hK _ _ (Qq (Qw (Qw ?_)))); clear hK K; refine Qx (fun K hK => ?_); refine Qz rfl rfl rfl ?_; refine Qv (hK _ _ (Qq (Qc rfl (Qw ?_)))); clear hK K; refine Qx (fun K hK => ?_); refine Qy rfl rfl rfl ?_; refine Qv (hK _ _ (Qq (Q0 (QV ?_)))); clear hK K)
    refine Q1 [_] rfl (QJ rfl QX) rfl rfl
  | false =>
    (refine Qw (Qx fun K hK => ?_); refine Qy rfl rfl rfl ?_; refine Qv (hK _ _ (Qq (Qw (Qw ?_)))); clear hK K; refine Qx (fun K hK => ?_); refine Qz rfl rfl rfl ?_; refine Qv (hK _ _ (Qq (Qe rfl (Q5 (Qq (Qw ?_)))))); clear hK K; refine Qx (fun K hK => ?_); refine Qy rfl rfl rfl ?_; refine Qv (hK _ _ (Qq (Q0 ?_))); clear hK K)
    refine Q1 [_] rfl (QJ rfl QX) rfl rfl
theorem bit_ok (b : Bool) : Ok Tryz.prog 81 [boolC b] (intC (b01 b)) := by
  refine Ok.enter Tryz.func81 rfl _ Tryz.ntmps81 rfl ?_
  intro S w
  cases b with
  | true =>
    (refine Qw (Qx fun K hK => ?_); refine Qy rfl rfl rfl ?_; refine Qv (hK _ _ (Qq (Qw (Qw ?_)))); clear hK K; refine Qx (fun K hK => ?_); refine Qz rfl rfl rfl ?_; refine Qv (hK _ _ (Qq (Qc rfl (Qw ?_)))); clear hK K; refine Qx (fun K hK => ?_); refine Qy rfl rfl rfl ?_; refine Qv (hK _ _ (Qq (Q0 (QV ?_)))); clear hK K)
    refine Q1 [_] rfl (QJ rfl QX) rfl rfl
  | false =>
    (refine Qw (Qx fun K hK => ?_); refine Qy rfl rfl rfl ?_; refine Qv (hK _ _ (Qq (Qw (Qw ?_)))); clear hK K; refine Qx (fun K hK => ?_); refine Qz rfl rfl rfl ?_; refine Qv (hK _ _ (Qq (Qe rfl (Q5 (Qq (Qw ?_)))))); clear hK K; refine Qx (fun K hK => ?_); refine Qy rfl rfl rfl ?_; refine Qv (hK _ _ (Qq (Q0 ?_))); clear hK K)
    refine Q1 [_] rfl (QJ rfl QX) rfl rfl
theorem rless_ok (p q : Int) : Ok Tryz.prog 82 [intC p, intC q] (intC (cmp3 p q)) := by
  refine Ok.enter Tryz.func82 rfl _ Tryz.ntmps82 rfl ?_
  intro S w
  (refine Qw (Qx fun K hK => ?_); refine Qy rfl rfl rfl ?_; refine Qv (hK _ _ (Qq (Qw (Q4 (Qw ?_))))); clear hK K; refine Qx (fun K hK => ?_); refine Qz rfl rfl rfl ?_; refine Qz rfl rfl rfl ?_; refine Qk ilss rfl rfl rfl rfl ?_; refine Qy rfl rfl rfl ?_; refine Qv (hK _ _ (Qq ?_)); clear hK K)
  refine Q7 rfl (fun h => ?_) (fun h => ?_)
  · (refine Qw (Qx fun K hK => ?_); refine Qy rfl rfl rfl ?_; refine Qv (hK _ _ (Qq (Q0 (Q6 (QV ?_))))); clear hK K)
    refine Q1 [_] rfl (QJ rfl QX) (by rw [ZX, if_pos h]; rfl) rfl
  · (refine Qw (Qx fun K hK => ?_); refine Qz rfl rfl rfl ?_; refine Qz rfl rfl rfl ?_; refine Qk igtr rfl rfl rfl rfl ?_; refine Qy rfl rfl rfl ?_; refine Qv (hK _ _ (Qq ?_)); clear hK K)
    refine Q7 rfl (fun h2 => ?_) (fun h2 => ?_)
    · (refine Qw (Qx fun K hK => ?_); refine Qy rfl rfl rfl ?_; refine Qv (hK _ _ (Qq (Q0 (Q6 (QV ?_))))); clear hK K)
      refine Q1 [_] rfl (QJ rfl QX) (by rw [ZX, if_neg h, if_pos h2]; rfl) rfl
    · (refine Q5 (Qq (Qw (Qx fun K hK => ?_))); refine Qy rfl rfl rfl ?_; refine Qv (hK _ _ (Qq (Q0 ?_))); clear hK K)
      refine Q1 [_] rfl (QJ rfl QX) (by rw [ZX, if_neg h, if_neg h2]; rfl) rfl
theorem goCmpR : InGo Tryz.prog 60 := InGo.of Tryz.func60 rfl (by decide)
theorem gorCmpR : InGo Tryz.prog 63 := InGo.of Tryz.func63 rfl (by decide)
set_option maxHeartbeats 8000000 in
theorem cmpR_ok (x y : Rs) : Ok Tryz.prog 60 [rsC x, rsC y] (intC (cmpR x y)) := by
  refine Ok.enter Tryz.func60 rfl _ Tryz.ntmps60 rfl ?_
  intro S w
  (refine Qw (Qx fun K hK => ?_); refine Qf 0 rfl rfl rfl rfl rfl rfl rfl ?_; refine Qf 1 rfl rfl rfl rfl rfl rfl rfl ?_; refine Qy rfl rfl rfl ?_; refine Qv (hK _ _ (Qq (Qw ?_))); clear hK K)
  refine St.drawF (by with_reducible exact mixed) 107 (.p 0 (.p 2 (.p 5 (.p 7 (.p 10 (.p 12 (.p 15 (.p 17 (.p 20 (.p 23 (.p 27 (.p 29 (.p 32 (.p 34 (.p 37 (.p 39 (.p 42 (.p 45 (.p 49 (.p 52 (.p 56 (.p 58 (.p 61 (.p 62 (.p 65 (.p 66 (.p 70 (.p 71 (.p 73 (.p 74 (.p 77 (.p 78 (.p 80 (.p 81 (.p 84 (.p 85 (.p 87 (.p 88 (.p 91 (.p 92 (.p 94 (.p 95 (.p 98 (.p 99 (.p 101 (.p 102 (.f 1 (.f 3 (.p 4 (.f 6 (.f 8 (.p 9 (.f 11 (.f 13 (.p 14 (.f 16 (.f 18 (.p 19 (.f 21 (.p 22 (.f 24 (.p 25 (.p 26 (.f 28 (.f 30 (.p 31 (.f 33 (.f 35 (.p 36 (.f 38 (.f 40 (.p 41 (.f 43 (.f 46 (.f 50 (.f 53 (.f 57 (.f 59 (.p 60 (.f 63 (.p 64 (.f 67 (.p 68 (.p 69 (.f 72 (.f 75 (.p 76 (.f 79 (.f 82 (.p 83 (.f 86 (.f 89 (.p 90 (.f 93 (.f 96 (.p 97 (.f 100 (.f 103 (.p 104 (.fork 44 (.fork 47 (.p 48 (.fork 51 (.fork 54 (.p 55 (.p 105 (.m 106 (.a 107 .done)))) 106 (.m 54 (.p 55 (.p 105 (.a 107 .done))))) 106 (.m 51 (.m 54 (.p 55 (.p 105 (.a 107 .done))))))) 106 (.m 47 (.p 48 (.m 51 (.m 54 (.p 55 (.p 105 (.a 107 .done)))))))) 106 (.m 44 (.m 47 (.p 48 (.m 51 (.m 54 (.p 55 (.p 105 (.a 107 .done)))))))))))))))))))))))))))))))))))))))))))))))))))))))))))))))))))))))))))))))))))))))))))))))))))))))))))) (by kernel_rfl) (fun K hK => ?_)
  refine (fun (cont : Go.Own.Fin _ [(5, .own 2)] [(2, .box 124 (prs (rsO x) (rsO y)).flatten), (1, .box 77 (rsCs y)), (0, .box 77 (rsCs x))] K) => ?_) (hK _ _ ?_)
  · clear hK
    refine Ops.batchP rsT_ok 99 (.fork 44 (.fork 47 (.p 48 (.fork 51 (.fork 54 (.p 55 (.p 105 (.m 106 (.a 107 .done)))) 106 (.m 54 (.p 55 (.p 105 (.a 107 .done))))) 106 (.m 51 (.m 54 (.p 55 (.p 105 (.a 107 .done))))))) 106 (.m 47 (.p 48 (.m 51 (.m 54 (.p 55 (.p 105 (.a 107 .done)))))))) 106 (.m 44 (.m 47 (.p 48 (.m 51 (.m 54 (.p 55 (.p 105 (.a 107 .done))))))))) ((113, .ct (.fr (aggT (pr (x.qu) (y.qu))))) :: (112, .ct (intC y.qu)) :: (109, .ct (intC x.qu)) :: (106, .ct (.fr (aggT (pr (x.id) (y.id))))) :: (105, .ct (intC y.id)) :: (102, .ct (intC x.id)) :: (99, .ct (.fr (aggT (pr (x.le) (y.le))))) :: (98, .ct (intC y.le)) :: (95, .ct (intC x.le)) :: (92, .ct (.fr (aggT (pr (x.co) (y.co))))) :: (91, .ct (intC y.co)) :: (88, .ct (intC x.co)) :: (85, .ct (.fr (aggT (pr (x.ki) (y.ki))))) :: (84, .ct (intC y.ki)) :: (81, .ct (intC x.ki)) :: (78, .ct (.fr (aggT (pr (IntKind.i64.wrap (x.fr.val : Int)) (IntKind.i64.wrap (y.fr.val : Int)))))) :: (77, .ct (intC (IntKind.i64.wrap (y.fr.val : Int)))) :: (76, .ct (adrC y.fr.val)) :: (73, .ct (intC (IntKind.i64.wrap (x.fr.val : Int)))) :: (72, .ct (adrC x.fr.val)) :: (69, .ct (.fr (aggT (pr (x.bk) (y.bk))))) :: (68, .ct (intC y.bk)) :: (66, .ct (intC x.bk)) :: (62, .ct (boolC y.db)) :: (59, .ct (boolC x.db)) :: (55, .ct (boolC y.an)) :: (52, .ct (boolC x.an)) :: (50, .ct (.fr (aggT (pr (x.tt) (y.tt))))) :: (49, .ct (intC y.tt)) :: (47, .ct (intC x.tt)) :: (45, .ct (.fr (aggT (pr (x.fl) (y.fl))))) :: (44, .ct (intC y.fl)) :: (42, .ct (intC x.fl)) :: (40, .ct (.fr (aggT (pr (x.pr) (y.pr))))) :: (39, .ct (intC y.pr)) :: (37, .ct (intC x.pr)) :: (35, .ct (.fr (aggT (pr (IntKind.i64.wrap (x.dst.val : Int)) (IntKind.i64.wrap (y.dst.val : Int)))))) :: (34, .ct (intC (IntKind.i64.wrap (y.dst.val : Int)))) :: (33, .ct (adrC y.dst.val)) :: (31, .ct (intC (IntKind.i64.wrap (x.dst.val : Int)))) :: (30, .ct (adrC x.dst.val)) :: (28, .ct (.fr (aggT (pr (x.nu) (y.nu))))) :: (27, .ct (intC y.nu)) :: (25, .ct (intC x.nu)) :: (23, .ct (.fr (aggT (pr (x.ru) (y.ru))))) :: (22, .ct (intC y.ru)) :: (20, .ct (intC x.ru)) :: (18, .ct (.fr (aggT (pr (x.va) (y.va))))) :: (17, .ct (intC y.va)) :: (15, .ct (intC x.va)) :: (13, .ct (.fr (aggT (pr (x.tm) (y.tm))))) :: (12, .ct (intC y.tm)) :: (10, .ct (intC x.tm)) :: (111, .loc 1 16) :: (110, .loc 1 11) :: (108, .loc 0 16) :: (107, .loc 0 11) :: (104, .loc 1 15) :: (103, .loc 1 11) :: (101, .loc 0 15) :: (100, .loc 0 11) :: (97, .loc 1 14) :: (96, .loc 1 11) :: (94, .loc 0 14) :: (93, .loc 0 11) :: (90, .loc 1 13) :: (89, .loc 1 11) :: (87, .loc 0 13) :: (86, .loc 0 11) :: (83, .loc 1 12) :: (82, .loc 1 11) :: (80, .loc 0 12) :: (79, .loc 0 11) :: (75, .loc 1 11) :: (74, .loc 1 11) :: (71, .loc 0 11) :: (70, .loc 0 11) :: (67, .loc 1 10) :: (65, .loc 0 10) :: (61, .loc 1 9) :: (58, .loc 0 9) :: (54, .loc 1 8) :: (51, .loc 0 8) :: (48, .loc 1 7) :: (46, .loc 0 7) :: (43, .loc 1 6) :: (41, .loc 0 6) :: (38, .loc 1 5) :: (36, .loc 0 5) :: (32, .loc 1 4) :: (29, .loc 0 4) :: (26, .loc 1 2) :: (24, .loc 0 2) :: (21, .loc 1 1) :: (19, .loc 0 1) :: (16, .loc 1 0) :: (14, .loc 0 0) :: (11, .loc 1 3) :: (9, .loc 0 3) :: (4, .ct (intC 0)) :: (3, .own 1) :: (2, .own 0) :: argL 0 [rsC x, rsC y]) (by kernel_rfl) [(2, .own 0), (3, .own 1), (13, .ct (.fr (aggT (pr (x.tm) (y.tm))))), (18, .ct (.fr (aggT (pr (x.va) (y.va))))), (23, .ct (.fr (aggT (pr (x.ru) (y.ru))))), (28, .ct (.fr (aggT (pr (x.nu) (y.nu))))), (35, .ct (.fr (aggT (pr (IntKind.i64.wrap (x.dst.val : Int)) (IntKind.i64.wrap (y.dst.val : Int)))))), (40, .ct (.fr (aggT (pr (x.pr) (y.pr))))), (45, .ct (.fr (aggT (pr (x.fl) (y.fl))))), (50, .ct (.fr (aggT (pr (x.tt) (y.tt))))), (69, .ct (.fr (aggT (pr (x.bk) (y.bk))))), (78, .ct (.fr (aggT (pr (IntKind.i64.wrap (x.fr.val : Int)) (IntKind.i64.wrap (y.fr.val : Int)))))), (85, .ct (.fr (aggT (pr (x.ki) (y.ki))))), (92, .ct (.fr (aggT (pr (x.co) (y.co))))), (99, .ct (.fr (aggT (pr (x.le) (y.le))))), (106, .ct (.fr (aggT (pr (x.id) (y.id))))), (113, .ct (.fr (aggT (pr (x.qu) (y.qu))))), (52, .ct (boolC x.an)), (55, .ct (boolC y.an)), (59, .ct (boolC x.db)), (62, .ct (boolC y.db))] ⟨rfl, rfl, rfl, rfl, rfl, rfl, rfl, rfl, rfl, rfl, rfl, rfl, rfl, rfl, rfl, rfl, rfl, rfl, rfl, rfl, rfl, trivial⟩ ?_
    refine Ops.fork ?_ ?_
    · refine Q3 ZV (Zx x.an) rfl rfl rfl rfl ?_
      refine Ops.fork ?_ ?_
      · refine Q3 ZV (Zx y.an) rfl rfl rfl rfl ?_
        refine XU (n := 1) (cs := pr (b01 x.an) (b01 y.an)) rfl (by with_reducible exact ZK) (.one rfl rfl rfl rfl (.one rfl rfl rfl rfl .nil)) rfl ?_
        refine Ops.fork ?_ ?_
        · refine Q3 ZV (Zx x.db) rfl rfl rfl rfl ?_
          refine Ops.fork ?_ ?_
          · refine Q3 ZV (Zx y.db) rfl rfl rfl rfl ?_
            refine XU (n := 1) (cs := pr (b01 x.db) (b01 y.db)) rfl (by with_reducible exact ZK) (.one rfl rfl rfl rfl (.one rfl rfl rfl rfl .nil)) rfl ?_
            refine Zu (n := 2) (prs (rsO x) (rsO y)) rfl (by with_reducible exact aPairs17) rfl ⟨rfl, rfl, rfl, rfl, rfl, rfl, rfl, rfl, rfl, rfl, rfl, rfl, rfl, rfl, rfl, rfl, rfl, rfl, rfl, rfl, rfl, rfl, rfl, rfl, rfl, rfl, rfl, rfl, rfl, rfl, rfl, rfl, rfl, rfl, rfl, rfl, rfl, rfl, rfl, rfl, rfl, rfl, rfl, rfl, rfl, rfl, rfl, rfl, rfl, rfl, rfl, trivial⟩ rfl ?_
            refine Qo 2 rfl rfl (by with_reducible exact zvPairs17) rfl rfl rfl ?_
            refine Qr 34 rfl rfl rfl rfl rfl (by with_reducible exact szPairs17) rfl rfl ?_
            exact Qv (Fin.keep [(5, .own 2)] ⟨rfl, trivial⟩ cont)
          · refine Qo 2 rfl rfl (by with_reducible exact zvPairs17) rfl rfl rfl ?_
            refine Q3 ZV (Zx y.db) rfl rfl rfl rfl ?_
            refine XU (n := 1) (cs := pr (b01 x.db) (b01 y.db)) rfl (by with_reducible exact ZK) (.one rfl rfl rfl rfl (.one rfl rfl rfl rfl .nil)) rfl ?_
            refine Zu (n := 2) (prs (rsO x) (rsO y)) rfl (by with_reducible exact aPairs17) rfl ⟨rfl, rfl, rfl, rfl, rfl, rfl, rfl, rfl, rfl, rfl, rfl, rfl, rfl, rfl, rfl, rfl, rfl, rfl, rfl, rfl, rfl, rfl, rfl, rfl, rfl, rfl, rfl, rfl, rfl, rfl, rfl, rfl, rfl, rfl, rfl, rfl, rfl, rfl, rfl, rfl, rfl, rfl, rfl, rfl, rfl, rfl, rfl, rfl, rfl, rfl, rfl, trivial⟩ rfl ?_
            refine Qr 34 rfl rfl rfl rfl rfl (by with_reducible exact szPairs17) rfl rfl ?_
            exact Qv (Fin.keep [(5, .own 2)] ⟨rfl, trivial⟩ cont)
        · refine Qo 2 rfl rfl (by with_reducible exact zvPairs17) rfl rfl rfl ?_
          refine Q3 ZV (Zx x.db) rfl rfl rfl rfl ?_
          refine Q3 ZV (Zx y.db) rfl rfl rfl rfl ?_
          refine XU (n := 1) (cs := pr (b01 x.db) (b01 y.db)) rfl (by with_reducible exact ZK) (.one rfl rfl rfl rfl (.one rfl rfl rfl rfl .nil)) rfl ?_
          refine Zu (n := 2) (prs (rsO x) (rsO y)) rfl (by with_reducible exact aPairs17) rfl ⟨rfl, rfl, rfl, rfl, rfl, rfl, rfl, rfl, rfl, rfl, rfl, rfl, rfl, rfl, rfl, rfl, rfl, rfl, rfl, rfl, rfl, rfl, rfl, rfl, rfl, rfl, rfl, rfl, rfl, rfl, rfl, rfl, rfl, rfl, rfl, rfl, rfl, rfl, rfl, rfl, rfl, rfl, rfl, rfl, rfl, rfl, rfl, rfl, rfl, rfl, rfl, trivial⟩ rfl ?_
          refine Qr 34 rfl rfl rfl rfl rfl (by with_reducible exact szPairs17) rfl rfl ?_
          exact Qv (Fin.keep [(5, .own 2)] ⟨rfl, trivial⟩ cont)
      · refine Qo 2 rfl rfl (by with_reducible exact zvPairs17) rfl rfl rfl ?_
        refine Q3 ZV (Zx y.an) rfl rfl rfl rfl ?_
        refine XU (n := 1) (cs := pr (b01 x.an) (b01 y.an)) rfl (by with_reducible exact ZK) (.one rfl rfl rfl rfl (.one rfl rfl rfl rfl .nil)) rfl ?_
        refine Q3 ZV (Zx x.db) rfl rfl rfl rfl ?_
        refine Q3 ZV (Zx y.db) rfl rfl rfl rfl ?_
        refine XU (n := 1) (cs := pr (b01 x.db) (b01 y.db)) rfl (by with_reducible exact ZK) (.one rfl rfl rfl rfl (.one rfl rfl rfl rfl .nil)) rfl ?_
        refine Zu (n := 2) (prs (rsO x) (rsO y)) rfl (by with_reducible exact aPairs17) rfl ⟨rfl, rfl, rfl, rfl, rfl, rfl, rfl, rfl, rfl, rfl, rfl, rfl, rfl, rfl, rfl, rfl, rfl, rfl, rfl, rfl, rfl, rfl, rfl, rfl, rfl, rfl, rfl, rfl, rfl, rfl, rfl, rfl, rfl, rfl, rfl, rfl, rfl, rfl, rfl, rfl, rfl, rfl, rfl, rfl, rfl, rfl, rfl, rfl, rfl, rfl, rfl, trivial⟩ rfl ?_
        refine Qr 34 rfl rfl rfl rfl rfl (by with_reducible exact szPairs17) rfl rfl ?_
        exact Qv (Fin.keep [(5, .own 2)] ⟨rfl, trivial⟩ cont)
    · refine Qo 2 rfl rfl (by with_reducible exact zvPairs17) rfl rfl rfl ?_
      refine Q3 ZV (Zx x.an) rfl rfl rfl rfl ?_
      refine Q3 ZV (Zx y.an) rfl rfl rfl rfl ?_
      refine XU (n := 1) (cs := pr (b01 x.an) (b01 y.an)) rfl (by with_reducible exact ZK) (.one rfl rfl rfl rfl (.one rfl rfl rfl rfl .nil)) rfl ?_
      refine Q3 ZV (Zx x.db) rfl rfl rfl rfl ?_
      refine Q3 ZV (Zx y.db) rfl rfl rfl rfl ?_
      refine XU (n := 1) (cs := pr (b01 x.db) (b01 y.db)) rfl (by with_reducible exact ZK) (.one rfl rfl rfl rfl (.one rfl rfl rfl rfl .nil)) rfl ?_
      refine Zu (n := 2) (prs (rsO x) (rsO y)) rfl (by with_reducible exact aPairs17) rfl ⟨rfl, rfl, rfl, rfl, rfl, rfl, rfl, rfl, rfl, rfl, rfl, rfl, rfl, rfl, rfl, rfl, rfl, rfl, rfl, rfl, rfl, rfl, rfl, rfl, rfl, rfl, rfl, rfl, rfl, rfl, rfl, rfl, rfl, rfl, rfl, rfl, rfl, rfl, rfl, rfl, rfl, rfl, rfl, rfl, rfl, rfl, rfl, rfl, rfl, rfl, rfl, trivial⟩ rfl ?_
      refine Qr 34 rfl rfl rfl rfl rfl (by with_reducible exact szPairs17) rfl rfl ?_
      exact Qv (Fin.keep [(5, .own 2)] ⟨rfl, trivial⟩ cont)
  clear hK K
  have hlx : (rsO x).length = 17 := rfl
  have hly : (rsO y).length = 17 := rfl
  have h0 : cmpL ((rsO x).drop 0) ((rsO y).drop 0) = cmpR x y := rfl
  generalize rsO x = xs at hlx h0 ⊢
  generalize rsO y = ys at hly h0 ⊢
  generalize cmpR x y = R at h0 ⊢
  have hfl : ((prs xs ys).flatten).length = 34 := by rw [X6 (k := 2) (prs_len xs ys)]; simp [prs, hlx, hly]
  (refine Qq (Qw (Qw (Qx fun K hK => ?_))))
  refine Qm (n := 34) rfl rfl rfl rfl hfl (by with_reducible exact lPairs17) rfl ?_
  (refine Qz rfl rfl rfl ?_; refine Qv (hK _ _ (Qq (Q4 ?_))); clear hK K)
  refine Qt (α := Nat) (fun j => j ≤ 17 ∧ cmpL (xs.drop j) (ys.drop j) = R)
    (fun j => [(115, .ct (.fr (aggT (prs xs ys).flatten))), (116, .ct (intC j))]) (fun _ => [(2, .box 124 (prs xs ys).flatten), (1, .box 77 (rsCs y)), (0, .box 77 (rsCs x))]) (fun j => 17 - j) 0 ⟨Nat.zero_le _, h0⟩ (by exact QK rfl ⟨rfl, rfl, trivial⟩) ?_
  rintro j ⟨hj, hc⟩
  dsimp only at hj hc ⊢
  (refine Qw (Qx fun K hK => ?_); refine Qk ilss rfl rfl rfl rfl ?_; refine Qv (hK _ _ (Qq (Qw ?_))); clear hK K)
  refine Q7 rfl (fun h => ?_) (fun h => ?_)
  · have h1 : j < xs.length := by omega
    have h2 : j < ys.length := by omega
    have hdr := cmpL_drop h1 h2
    have hat := prs_at h1 h2
    generalize xs.getD j 0 = p at hdr hat
    generalize ys.getD j 0 = q at hdr hat
    (refine Q5 (Qq (Qw (Q4 (Qw (Qx fun K hK => ?_))))))
    refine Ops.idxV (n := 2) rfl rfl rfl (by with_reducible exact aPairs17) (by with_reducible exact uPair) rfl (prs_len xs ys) (by omega) (by omega) (by rw [Int.toNat_natCast]; exact hat) rfl ?_
    refine Qo 3 rfl rfl (by with_reducible exact zvPair) rfl rfl rfl ?_
    refine Qr 2 rfl rfl rfl rfl rfl (by with_reducible exact szPair) rfl rfl ?_
    (refine Qv (hK _ _ (Qq (Qw ?_))); clear hK K; refine Qx (fun K hK => ?_))
    refine Xf (n := 1) rfl rfl rfl rfl (by with_reducible exact ZK) (by decide) (by decide) rfl ?_
    (refine QQ rfl rfl rfl rfl rfl (by with_reducible first | exact lInt | exact QU | exact Qi | exact Xx) rfl ?_)
    refine Xf (n := 1) rfl rfl rfl rfl (by with_reducible exact ZK) (by decide) (by decide) rfl ?_
    (refine QQ rfl rfl rfl rfl rfl (by with_reducible first | exact lInt | exact QU | exact Qi | exact Xx) rfl ?_)
    refine Q3 gocm (cm_ok p q) rfl rfl rfl rfl ?_
    (refine Qy rfl rfl rfl ?_; refine Qv (hK _ _ (Qq (Qw ?_))); clear hK K; refine Qx (fun K hK => ?_); refine Qz rfl rfl rfl ?_; refine Qk ineq rfl rfl rfl rfl ?_; refine Qv (hK _ _ (Qq ?_)); clear hK K)
    refine Q7 rfl (fun h3 => ?_) (fun h3 => ?_)
    · (refine Qw (Qx fun K hK => ?_); refine Qz rfl rfl rfl ?_; refine Qy rfl rfl rfl ?_; refine Qv (hK _ _ (Qq (Q0 (Q6 (QV (QV (Q6 (QV ?_)))))))); clear hK K)
      refine Q1 [_] rfl (QJ rfl QX) (by rw [← hc, hdr, if_pos h3]; rfl) rfl
    · (refine Q5 (Qq (Qx fun K hK => ?_)); refine Qk (iadd (by omega) (by omega)) rfl rfl rfl rfl ?_; refine Qz rfl rfl rfl ?_; refine Qv (hK _ _ (Qa ?_)); clear hK K)
      rw [if_neg h3] at hdr
      refine X7 3 ?_
      refine Qg (j + 1) (by omega) ⟨by omega, by rw [← hc, hdr]⟩ (by exact QK rfl ⟨rfl, by simp only [Int.natCast_add]; rfl, trivial⟩)
  · (refine Qh (Qq (Qw (Qx fun K hK => ?_))); refine Qy rfl rfl rfl ?_; refine Qv (hK _ _ (Qq (Q0 ?_))); clear hK K)
    have hj' : j = 17 := by omega
    refine Q1 [_] rfl (QJ rfl QX) (by rw [← hc, hj', List.drop_of_length_le (by omega)]; rfl) rfl
set_option maxHeartbeats 8000000 in
theorem rcmpR_ok (x y : Rs) : Ok Tryz.prog 63 [rsC x, rsC y] (intC (cmpR x y)) := by
  have hR : cmpR x y = cmpL (rsO6 x ++ [x.qu]) (rsO6 y ++ [y.qu]) := rfl
  refine Ok.enter Tryz.func63 rfl _ Tryz.ntmps63 rfl ?_
  intro S w
  (refine Qw (Qx fun K hK => ?_); refine Qf 0 rfl rfl rfl rfl rfl rfl rfl ?_; refine Qf 1 rfl rfl rfl rfl rfl rfl rfl ?_; refine Qy rfl rfl rfl ?_; refine Qv (hK _ _ (Qq (Qw (Qw ?_)))); clear hK K)
  refine St.drawF (by with_reducible exact mixed) 100 (.p 0 (.p 2 (.p 5 (.p 7 (.p 10 (.p 12 (.p 15 (.p 17 (.p 20 (.p 23 (.p 27 (.p 29 (.p 32 (.p 34 (.p 37 (.p 39 (.p 42 (.p 45 (.p 49 (.p 52 (.p 56 (.p 58 (.p 61 (.p 62 (.p 65 (.p 66 (.p 70 (.p 71 (.p 73 (.p 74 (.p 77 (.p 78 (.p 80 (.p 81 (.p 84 (.p 85 (.p 87 (.p 88 (.p 91 (.p 92 (.p 94 (.p 95 (.p 99 (.f 1 (.f 3 (.p 4 (.f 6 (.f 8 (.p 9 (.f 11 (.f 13 (.p 14 (.f 16 (.f 18 (.p 19 (.f 21 (.p 22 (.f 24 (.p 25 (.p 26 (.f 28 (.f 30 (.p 31 (.f 33 (.f 35 (.p 36 (.f 38 (.f 40 (.p 41 (.f 43 (.f 46 (.f 50 (.f 53 (.f 57 (.f 59 (.p 60 (.f 63 (.p 64 (.f 67 (.p 68 (.p 69 (.f 72 (.f 75 (.p 76 (.f 79 (.f 82 (.p 83 (.f 86 (.f 89 (.p 90 (.f 93 (.f 96 (.p 97 (.m 44 (.m 47 (.p 48 (.m 51 (.m 54 (.p 55 (.p 98 .done)))))))))))))))))))))))))))))))))))))))))))))))))))))))))))))))))))))))))))))))))))))))))))))))))))) (by kernel_rfl) (fun K hK => ?_)
  refine Ops.batchP rsT_ok 93 (.m 44 (.m 47 (.p 48 (.m 51 (.m 54 (.p 55 (.p 98 .done))))))) ((104, .ct (.fr (aggT (pr (x.id) (y.id))))) :: (103, .ct (intC y.id)) :: (100, .ct (intC x.id)) :: (97, .ct (.fr (aggT (pr (x.le) (y.le))))) :: (96, .ct (intC y.le)) :: (93, .ct (intC x.le)) :: (90, .ct (.fr (aggT (pr (x.co) (y.co))))) :: (89, .ct (intC y.co)) :: (86, .ct (intC x.co)) :: (83, .ct (.fr (aggT (pr (x.ki) (y.ki))))) :: (82, .ct (intC y.ki)) :: (79, .ct (intC x.ki)) :: (76, .ct (.fr (aggT (pr (IntKind.i64.wrap (x.fr.val : Int)) (IntKind.i64.wrap (y.fr.val : Int)))))) :: (75, .ct (intC (IntKind.i64.wrap (y.fr.val : Int)))) :: (74, .ct (adrC y.fr.val)) :: (71, .ct (intC (IntKind.i64.wrap (x.fr.val : Int)))) :: (70, .ct (adrC x.fr.val)) :: (67, .ct (.fr (aggT (pr (x.bk) (y.bk))))) :: (66, .ct (intC y.bk)) :: (64, .ct (intC x.bk)) :: (60, .ct (boolC y.db)) :: (57, .ct (boolC x.db)) :: (53, .ct (boolC y.an)) :: (50, .ct (boolC x.an)) :: (48, .ct (.fr (aggT (pr (x.tt) (y.tt))))) :: (47, .ct (intC y.tt)) :: (45, .ct (intC x.tt)) :: (43, .ct (.fr (aggT (pr (x.fl) (y.fl))))) :: (42, .ct (intC y.fl)) :: (40, .ct (intC x.fl)) :: (38, .ct (.fr (aggT (pr (x.pr) (y.pr))))) :: (37, .ct (intC y.pr)) :: (35, .ct (intC x.pr)) :: (33, .ct (.fr (aggT (pr (IntKind.i64.wrap (x.dst.val : Int)) (IntKind.i64.wrap (y.dst.val : Int)))))) :: (32, .ct (intC (IntKind.i64.wrap (y.dst.val : Int)))) :: (31, .ct (adrC y.dst.val)) :: (29, .ct (intC (IntKind.i64.wrap (x.dst.val : Int)))) :: (28, .ct (adrC x.dst.val)) :: (26, .ct (.fr (aggT (pr (x.nu) (y.nu))))) :: (25, .ct (intC y.nu)) :: (23, .ct (intC x.nu)) :: (21, .ct (.fr (aggT (pr (x.ru) (y.ru))))) :: (20, .ct (intC y.ru)) :: (18, .ct (intC x.ru)) :: (16, .ct (.fr (aggT (pr (x.va) (y.va))))) :: (15, .ct (intC y.va)) :: (13, .ct (intC x.va)) :: (11, .ct (.fr (aggT (pr (x.tm) (y.tm))))) :: (10, .ct (intC y.tm)) :: (8, .ct (intC x.tm)) :: (106, .ct (intC 0)) :: (102, .loc 1 15) :: (101, .loc 1 11) :: (99, .loc 0 15) :: (98, .loc 0 11) :: (95, .loc 1 14) :: (94, .loc 1 11) :: (92, .loc 0 14) :: (91, .loc 0 11) :: (88, .loc 1 13) :: (87, .loc 1 11) :: (85, .loc 0 13) :: (84, .loc 0 11) :: (81, .loc 1 12) :: (80, .loc 1 11) :: (78, .loc 0 12) :: (77, .loc 0 11) :: (73, .loc 1 11) :: (72, .loc 1 11) :: (69, .loc 0 11) :: (68, .loc 0 11) :: (65, .loc 1 10) :: (63, .loc 0 10) :: (59, .loc 1 9) :: (56, .loc 0 9) :: (52, .loc 1 8) :: (49, .loc 0 8) :: (46, .loc 1 7) :: (44, .loc 0 7) :: (41, .loc 1 6) :: (39, .loc 0 6) :: (36, .loc 1 5) :: (34, .loc 0 5) :: (30, .loc 1 4) :: (27, .loc 0 4) :: (24, .loc 1 2) :: (22, .loc 0 2) :: (19, .loc 1 1) :: (17, .loc 0 1) :: (14, .loc 1 0) :: (12, .loc 0 0) :: (9, .loc 1 3) :: (7, .loc 0 3) :: (4, .ct (intC 0)) :: (3, .own 1) :: (2, .own 0) :: argL 0 [rsC x, rsC y]) (by kernel_rfl) [(2, .own 0), (3, .own 1), (11, .ct (.fr (aggT (pr (x.tm) (y.tm))))), (16, .ct (.fr (aggT (pr (x.va) (y.va))))), (21, .ct (.fr (aggT (pr (x.ru) (y.ru))))), (26, .ct (.fr (aggT (pr (x.nu) (y.nu))))), (33, .ct (.fr (aggT (pr (IntKind.i64.wrap (x.dst.val : Int)) (IntKind.i64.wrap (y.dst.val : Int)))))), (38, .ct (.fr (aggT (pr (x.pr) (y.pr))))), (43, .ct (.fr (aggT (pr (x.fl) (y.fl))))), (48, .ct (.fr (aggT (pr (x.tt) (y.tt))))), (67, .ct (.fr (aggT (pr (x.bk) (y.bk))))), (76, .ct (.fr (aggT (pr (IntKind.i64.wrap (x.fr.val : Int)) (IntKind.i64.wrap (y.fr.val : Int)))))), (83, .ct (.fr (aggT (pr (x.ki) (y.ki))))), (90, .ct (.fr (aggT (pr (x.co) (y.co))))), (97, .ct (.fr (aggT (pr (x.le) (y.le))))), (104, .ct (.fr (aggT (pr (x.id) (y.id))))), (50, .ct (boolC x.an)), (53, .ct (boolC y.an)), (57, .ct (boolC x.db)), (60, .ct (boolC y.db)), (106, .ct (intC 0))] ⟨rfl, rfl, rfl, rfl, rfl, rfl, rfl, rfl, rfl, rfl, rfl, rfl, rfl, rfl, rfl, rfl, rfl, rfl, rfl, rfl, rfl, trivial⟩ ?_
  refine Q3 gobit (bit_ok x.an) rfl rfl rfl rfl ?_
  refine Q3 gobit (bit_ok y.an) rfl rfl rfl rfl ?_
  refine XU (n := 1) (cs := pr (b01 x.an) (b01 y.an)) rfl (by with_reducible exact ZK) (.one rfl rfl rfl rfl (.one rfl rfl rfl rfl .nil)) rfl ?_
  refine Q3 gobit (bit_ok x.db) rfl rfl rfl rfl ?_
  refine Q3 gobit (bit_ok y.db) rfl rfl rfl rfl ?_
  refine XU (n := 1) (cs := pr (b01 x.db) (b01 y.db)) rfl (by with_reducible exact ZK) (.one rfl rfl rfl rfl (.one rfl rfl rfl rfl .nil)) rfl ?_
  refine Zu (n := 2) (prs (rsO6 x) (rsO6 y)) rfl (by with_reducible exact aPairs16) rfl ⟨rfl, rfl, rfl, rfl, rfl, rfl, rfl, rfl, rfl, rfl, rfl, rfl, rfl, rfl, rfl, rfl, rfl, rfl, rfl, rfl, rfl, rfl, rfl, rfl, rfl, rfl, rfl, rfl, rfl, rfl, rfl, rfl, rfl, rfl, rfl, rfl, rfl, rfl, rfl, rfl, rfl, rfl, rfl, rfl, rfl, rfl, rfl, rfl, trivial⟩ rfl ?_
  refine Qv (hK _ _ ?_)
  clear hK K
  have hlx : (rsO6 x).length = 16 := rfl
  have hly : (rsO6 y).length = 16 := rfl
  generalize rsO6 x = xs at hlx hR
  generalize rsO6 y = ys at hly hR
  generalize cmpR x y = R at hR ⊢
  (refine Qq (Q4 ?_))
  refine Qt (α := Nat) (fun j => j ≤ 16 ∧ cmpL (xs.drop j ++ [x.qu]) (ys.drop j ++ [y.qu]) = R)
    (fun j => [(2, .own 0), (3, .own 1), (105, .ct (.fr (aggT (prs xs ys).flatten))), (106, .ct (intC j))]) (fun _ => [(1, .box 77 (rsCs y)), (0, .box 77 (rsCs x))]) (fun j => 16 - j) 0 ⟨Nat.zero_le _, hR.symm⟩ (by exact QK rfl ⟨rfl, rfl, rfl, rfl, trivial⟩) ?_
  rintro j ⟨hj, hc⟩
  dsimp only at hj hc ⊢
  (refine Qw (Qx fun K hK => ?_); refine Qk ilss rfl rfl rfl rfl ?_; refine Qv (hK _ _ (Qq (Qw ?_))); clear hK K)
  refine Q7 rfl (fun h => ?_) (fun h => ?_)
  · have h1 : j < xs.length := by omega
    have h2 : j < ys.length := by omega
    have hdr : cmpL (xs.drop j ++ [x.qu]) (ys.drop j ++ [y.qu]) = if cmp3 (xs.getD j 0) (ys.getD j 0) ≠ 0 then cmp3 (xs.getD j 0) (ys.getD j 0) else cmpL (xs.drop (j + 1) ++ [x.qu]) (ys.drop (j + 1) ++ [y.qu]) := by
      rw [List.drop_eq_getElem_cons h1, List.drop_eq_getElem_cons h2, List.getD_eq_getElem?_getD, List.getElem?_eq_getElem h1, List.getD_eq_getElem?_getD, List.getElem?_eq_getElem h2]; rfl
    have hat := prs_at h1 h2
    generalize xs.getD j 0 = p at hdr hat
    generalize ys.getD j 0 = q at hdr hat
    (refine Q5 (Qq (Qw (Q4 (Qw (Qx fun K hK => ?_))))))
    refine Ops.idxV (n := 2) rfl rfl rfl (by with_reducible exact aPairs16) (by with_reducible exact uPair) rfl (prs_len xs ys) (by omega) (by omega) (by rw [Int.toNat_natCast]; exact hat) rfl ?_
    refine Qo 2 rfl rfl (by with_reducible exact zvPair) rfl rfl rfl ?_
    refine Qr 2 rfl rfl rfl rfl rfl (by with_reducible exact szPair) rfl rfl ?_
    (refine Qv (hK _ _ (Qq (Qw ?_))); clear hK K; refine Qx (fun K hK => ?_))
    refine Xf (n := 1) rfl rfl rfl rfl (by with_reducible exact ZK) (by decide) (by decide) rfl ?_
    (refine QQ rfl rfl rfl rfl rfl (by with_reducible first | exact lInt | exact QU | exact Qi | exact Xx) rfl ?_)
    refine Xf (n := 1) rfl rfl rfl rfl (by with_reducible exact ZK) (by decide) (by decide) rfl ?_
    (refine QQ rfl rfl rfl rfl rfl (by with_reducible first | exact lInt | exact QU | exact Qi | exact Xx) rfl ?_; refine Qk ineq rfl rfl rfl rfl ?_; refine Qv (hK _ _ (Qq ?_)); clear hK K)
    refine Q7 rfl (fun h3 => ?_) (fun h3 => ?_)
    · have hne : cmp3 p q ≠ 0 := by rw [ZX]; split <;> (try split) <;> omega
      (refine Qw (Qx fun K hK => ?_))
      refine Xf (n := 1) rfl rfl rfl rfl (by with_reducible exact ZK) (by decide) (by decide) rfl ?_
      (refine QQ rfl rfl rfl rfl rfl (by with_reducible first | exact lInt | exact QU | exact Qi | exact Xx) rfl ?_)
      refine Xf (n := 1) rfl rfl rfl rfl (by with_reducible exact ZK) (by decide) (by decide) rfl ?_
      (refine QQ rfl rfl rfl rfl rfl (by with_reducible first | exact lInt | exact QU | exact Qi | exact Xx) rfl ?_)
      refine Q3 gorless (rless_ok p q) rfl rfl rfl rfl ?_
      (refine Qy rfl rfl rfl ?_; refine Qv (hK _ _ (Qq (Q0 (Q6 (QV (QV (Q6 (QV ?_)))))))); clear hK K)
      refine Q1 [_] rfl (QJ rfl QX) (by rw [← hc, hdr, if_pos hne]; rfl) rfl
    · have he : cmp3 p q = 0 := by rw [Classical.not_not.1 h3]; exact ZX q q |>.trans (by rw [if_neg (Int.lt_irrefl _), if_neg (Int.lt_irrefl _)])
      (refine Q5 (Qq (Qx fun K hK => ?_)); refine Qk (iadd (by omega) (by omega)) rfl rfl rfl rfl ?_; refine Qz rfl rfl rfl ?_; refine Qv (hK _ _ (Qa ?_)); clear hK K)
      rw [he] at hdr
      refine X7 2 ?_
      refine Qg (j + 1) (by omega) ⟨by omega, by rw [← hc, hdr]; rfl⟩ (by exact QK rfl ⟨rfl, rfl, rfl, by simp only [Int.natCast_add]; rfl, trivial⟩)
  · have hj' : j = 16 := by omega
    rw [hj', List.drop_of_length_le (by omega), List.drop_of_length_le (by omega)] at hc
    have he : cmpL ([] ++ [x.qu]) ([] ++ [y.qu]) = cmp3 x.qu y.qu := by
      show (if cmp3 x.qu y.qu ≠ 0 then cmp3 x.qu y.qu else 0) = _
      split
      · rfl
      · rename_i h5; exact (Classical.not_not.1 h5).symm
    (refine Qh (Qq (Qw (Qx fun K hK => ?_))); refine Qu rfl rfl rfl (by with_reducible first | exact fS0 | exact fS1 | exact fS2 | exact fS3 | exact fS4 | exact fS5 | exact fS6 | exact fS7 | exact fS8 | exact fS9 | exact fS10 | exact fS11 | exact fN0 | exact fN1 | exact fN2 | exact fN3 | exact fN4 | exact fN5) rfl ?_; refine XV rfl rfl (by with_reducible first | exact fN0 | exact fN1 | exact fN2 | exact fN3 | exact fN4 | exact fN5) rfl ?_; refine QQ rfl rfl rfl rfl rfl (by with_reducible first | exact lInt | exact QU | exact Qi | exact Xx) rfl ?_; refine Qu rfl rfl rfl (by with_reducible first | exact fS0 | exact fS1 | exact fS2 | exact fS3 | exact fS4 | exact fS5 | exact fS6 | exact fS7 | exact fS8 | exact fS9 | exact fS10 | exact fS11 | exact fN0 | exact fN1 | exact fN2 | exact fN3 | exact fN4 | exact fN5) rfl ?_; refine XV rfl rfl (by with_reducible first | exact fN0 | exact fN1 | exact fN2 | exact fN3 | exact fN4 | exact fN5) rfl ?_; refine QQ rfl rfl rfl rfl rfl (by with_reducible first | exact lInt | exact QU | exact Qi | exact Xx) rfl ?_)
    refine Q3 gorless (rless_ok x.qu y.qu) rfl rfl rfl rfl ?_
    (refine Qy rfl rfl rfl ?_; refine Qv (hK _ _ (Qq (Q0 ?_))); clear hK K)
    refine Q1 [_] rfl (QJ rfl QX) (by rw [← hc, he]; rfl) rfl
def anI (r : Rs) : List Int := [(r.fr.val : Int), r.ki, r.co, r.le, r.id, r.qu]
def P1 (r : Rs) : Prop := r.va < 0 ∨ 15 < r.va ∨ r.ru < 0 ∨ 63 < r.ru ∨ r.nu < 0 ∨ 999 < r.nu ∨ r.tm < 0 ∨ 2251799813685248 < r.tm ∨ r.bk < 0 ∨ 2251799813685248 < r.bk ∨ r.bk < r.tm ∨ r.fl < 0 ∨ 1023 < r.fl ∨ r.tt < 1 ∨ 255 < r.tt
def P2 (r : Rs) : Prop := r.pr ≠ 1 ∧ r.pr ≠ 6 ∧ r.pr ≠ 17
def P3 (r : Rs) : Prop := r.an = false ∧ (r.db = true ∨ anI r ≠ [0, 0, 0, 0, 0, 0])
def P4 (r : Rs) : Prop := r.an = true ∧ (r.ki < 1 ∨ 5 < r.ki ∨ r.co < 0 ∨ 255 < r.co ∨ r.le < 0 ∨ 255 < r.le ∨ r.qu < 0 ∨ 255 < r.qu ∨ r.id < 0 ∨ 65535 < r.id)
instance (r : Rs) : Decidable (P1 r) := by unfold P1; infer_instance
instance (r : Rs) : Decidable (P2 r) := by unfold P2; infer_instance
instance (r : Rs) : Decidable (P3 r) := by unfold P3; infer_instance
instance (r : Rs) : Decidable (P4 r) := by unfold P4; infer_instance
def ckE (r : Rs) : Int := if P1 r then 1 else if P2 r then 16 else if P3 r then 7 else if P4 r then 1 else 0
def okR (r : Rs) : Bool := decide (ckE r = 0) && (decide (r.dst.val ≠ 0) && (!r.an || decide (r.fr.val ≠ 0)))
theorem eAns : EqS Tryz.prog 75 [.u32, .i64, .i64, .i64, .i64, .i64] := ⟨by kernel_rfl, by kernel_rfl, by kernel_rfl, by kernel_rfl⟩
theorem ZQ : InGo Tryz.prog 89 := InGo.of Tryz.func89 rfl (by decide)
theorem gojrun : InGo Tryz.prog 88 := InGo.of Tryz.func88 rfl (by decide)
theorem gojCheck : InGo Tryz.prog 76 := InGo.of Tryz.func76 rfl (by decide)
theorem gorident : InGo Tryz.prog 100 := InGo.of Tryz.func100 rfl (by decide)
theorem gooctet : InGo Tryz.prog 101 := InGo.of Tryz.func101 rfl (by decide)
theorem gorCheckR : InGo Tryz.prog 80 := InGo.of Tryz.func80 rfl (by decide)
theorem goValidR : InGo Tryz.prog 58 := InGo.of Tryz.func58 rfl (by decide)
theorem gorValidR : InGo Tryz.prog 62 := InGo.of Tryz.func62 rfl (by decide)
theorem Zq (n m : Int) : Ok Tryz.prog 89 [intC n, intC m] (boolC (decide (0 ≤ n ∧ n ≤ m))) := by
  refine Ok.enter Tryz.func89 rfl _ Tryz.ntmps89 rfl ?_
  intro S w
  (refine Qw (Qx fun K hK => ?_); refine Qy rfl rfl rfl ?_; refine Qv (hK _ _ (Qq (Qw ?_))); clear hK K; refine Qx (fun K hK => ?_); refine Qz rfl rfl rfl ?_; refine Qk igeq rfl rfl rfl rfl ?_; refine Qz rfl rfl rfl ?_)
  refine Q8 7 rfl (fun h => ?_) (fun h => ?_)
  · (refine Qz rfl rfl rfl ?_; refine Qz rfl rfl rfl ?_; refine Qk ileq rfl rfl rfl rfl ?_; refine QZ rfl rfl rfl rfl ?_; refine Qy rfl rfl rfl ?_; refine Qv (hK _ _ (Qq (Q0 ?_))); clear hK K)
    refine Q1 [_] rfl (QJ rfl QX) (by rw [show decide (0 ≤ n ∧ n ≤ m) = decide (n ≤ m) from decide_eq_decide.2 ⟨fun h2 => h2.2, fun h2 => ⟨h, h2⟩⟩]; rfl) rfl
  · (refine Qj rfl rfl rfl ?_; refine Qj rfl rfl rfl ?_; refine Qj rfl rfl rfl ?_; refine Q2 rfl rfl rfl rfl ?_; refine Qy rfl rfl rfl ?_; refine Qv (hK _ _ (Qq (Q0 ?_))); clear hK K)
    refine Q1 [_] rfl (QJ rfl QX) (by rw [decide_eq_false (fun h2 : 0 ≤ n ∧ n ≤ m => h h2.1)]; rfl) rfl
theorem octet_ok (n : Int) : Ok Tryz.prog 101 [intC n] (boolC (decide (0 ≤ n ∧ n ≤ 255))) := by
  refine Ok.enter Tryz.func101 rfl _ Tryz.ntmps101 rfl ?_
  intro S w
  (refine Qw (Qx fun K hK => ?_); refine Qy rfl rfl rfl ?_; refine Qv (hK _ _ (Qq (Qw ?_))); clear hK K; refine Qx (fun K hK => ?_); refine Qz rfl rfl rfl ?_; refine Qk igeq rfl rfl rfl rfl ?_; refine Qz rfl rfl rfl ?_)
  refine Q8 5 rfl (fun h => ?_) (fun h => ?_)
  · (refine Qz rfl rfl rfl ?_; refine Qk ileq rfl rfl rfl rfl ?_; refine QZ rfl rfl rfl rfl ?_; refine Qy rfl rfl rfl ?_; refine Qv (hK _ _ (Qq (Q0 ?_))); clear hK K)
    refine Q1 [_] rfl (QJ rfl QX) (by rw [show decide (0 ≤ n ∧ n ≤ 255) = decide (n ≤ 255) from decide_eq_decide.2 ⟨fun h2 => h2.2, fun h2 => ⟨h, h2⟩⟩]; rfl) rfl
  · (refine Qj rfl rfl rfl ?_; refine Qj rfl rfl rfl ?_; refine Q2 rfl rfl rfl rfl ?_; refine Qy rfl rfl rfl ?_; refine Qv (hK _ _ (Qq (Q0 ?_))); clear hK K)
    refine Q1 [_] rfl (QJ rfl QX) (by rw [decide_eq_false (fun h2 : 0 ≤ n ∧ n ≤ 255 => h h2.1)]; rfl) rfl
theorem jrun_ok (n m : Int) : Ok Tryz.prog 88 [intC n, intC m] (boolC (decide ((0 ≤ n ∧ n ≤ 15) ∧ 0 ≤ m ∧ m ≤ 63))) := by
  refine Ok.enter Tryz.func88 rfl _ Tryz.ntmps88 rfl ?_
  intro S w
  (refine Qw (Qx fun K hK => ?_); refine Qy rfl rfl rfl ?_; refine Qv (hK _ _ (Qq (Qw ?_))); clear hK K; refine Qx (fun K hK => ?_); refine Qz rfl rfl rfl ?_)
  refine Q3 ZQ (Zq n 15) rfl rfl rfl rfl ?_
  (refine Qz rfl rfl rfl ?_)
  refine Q8 7 rfl (fun h => ?_) (fun h => ?_)
  · (refine Qz rfl rfl rfl ?_)
    refine Q3 ZQ (Zq m 63) rfl rfl rfl rfl ?_
    (refine QZ rfl rfl rfl rfl ?_; refine Qy rfl rfl rfl ?_; refine Qv (hK _ _ (Qq (Q0 ?_))); clear hK K)
    refine Q1 [_] rfl (QJ rfl QX) (by rw [show decide ((0 ≤ n ∧ n ≤ 15) ∧ 0 ≤ m ∧ m ≤ 63) = decide (0 ≤ m ∧ m ≤ 63) from decide_eq_decide.2 ⟨fun h2 => h2.2, fun h2 => ⟨h, h2⟩⟩]; rfl) rfl
  · (refine Qj rfl rfl rfl ?_; refine Qj rfl rfl rfl ?_; refine Q2 rfl rfl rfl rfl ?_; refine Qy rfl rfl rfl ?_; refine Qv (hK _ _ (Qq (Q0 ?_))); clear hK K)
    refine Q1 [_] rfl (QJ rfl QX) (by rw [decide_eq_false (fun h2 : (0 ≤ n ∧ n ≤ 15) ∧ 0 ≤ m ∧ m ≤ 63 => h h2.1)]; rfl) rfl
theorem rident_ok (n m : Int) : Ok Tryz.prog 100 [intC n, intC m] (boolC (decide ((0 ≤ n ∧ n ≤ 15) ∧ 0 ≤ m ∧ m ≤ 63))) := by
  refine Ok.enter Tryz.func100 rfl _ Tryz.ntmps100 rfl ?_
  intro S w
  (refine Qw (Qx fun K hK => ?_); refine Qy rfl rfl rfl ?_; refine Qv (hK _ _ (Qq (Qw ?_))); clear hK K; refine Qx (fun K hK => ?_); refine Qz rfl rfl rfl ?_; refine Qk igeq rfl rfl rfl rfl ?_; refine Qz rfl rfl rfl ?_)
  refine Q8 7 rfl (fun h => ?_) (fun h => ?_)
  rotate_left
  · (refine Qj rfl rfl rfl ?_; refine Qj rfl rfl rfl ?_; refine Q2 rfl rfl rfl rfl ?_; refine Qz rfl rfl rfl ?_; refine Qj rfl rfl rfl ?_; refine Qj rfl rfl rfl ?_; refine Q2 rfl rfl rfl rfl ?_; refine Qz rfl rfl rfl ?_; refine Qj rfl rfl rfl ?_; refine Qj rfl rfl rfl ?_; refine Q2 rfl rfl rfl rfl ?_; refine Qy rfl rfl rfl ?_; refine Qv (hK _ _ (Qq (Q0 ?_))); clear hK K)
    refine Q1 [_] rfl (QJ rfl QX) (by rw [decide_eq_false (fun h2 : (0 ≤ n ∧ n ≤ 15) ∧ 0 ≤ m ∧ m ≤ 63 => by omega)]; rfl) rfl
  (refine Qz rfl rfl rfl ?_; refine Qk ilss rfl rfl rfl rfl ?_; refine QZ rfl rfl rfl rfl ?_; refine Qz rfl rfl rfl ?_)
  refine Q8 11 rfl (fun h3 => ?_) (fun h3 => ?_)
  rotate_left
  · (refine Qj rfl rfl rfl ?_; refine Qj rfl rfl rfl ?_; refine Q2 rfl rfl rfl rfl ?_; refine Qz rfl rfl rfl ?_; refine Qj rfl rfl rfl ?_; refine Qj rfl rfl rfl ?_; refine Q2 rfl rfl rfl rfl ?_; refine Qy rfl rfl rfl ?_; refine Qv (hK _ _ (Qq (Q0 ?_))); clear hK K)
    refine Q1 [_] rfl (QJ rfl QX) (by rw [decide_eq_false (fun h2 : (0 ≤ n ∧ n ≤ 15) ∧ 0 ≤ m ∧ m ≤ 63 => by omega)]; rfl) rfl
  (refine Qz rfl rfl rfl ?_; refine Qk igeq rfl rfl rfl rfl ?_; refine QZ rfl rfl rfl rfl ?_; refine Qz rfl rfl rfl ?_)
  refine Q8 15 rfl (fun h4 => ?_) (fun h4 => ?_)
  rotate_left
  · (refine Qj rfl rfl rfl ?_; refine Qj rfl rfl rfl ?_; refine Q2 rfl rfl rfl rfl ?_; refine Qy rfl rfl rfl ?_; refine Qv (hK _ _ (Qq (Q0 ?_))); clear hK K)
    refine Q1 [_] rfl (QJ rfl QX) (by rw [decide_eq_false (fun h2 : (0 ≤ n ∧ n ≤ 15) ∧ 0 ≤ m ∧ m ≤ 63 => by omega)]; rfl) rfl
  (refine Qz rfl rfl rfl ?_; refine Qk ilss rfl rfl rfl rfl ?_; refine QZ rfl rfl rfl rfl ?_; refine Qy rfl rfl rfl ?_; refine Qv (hK _ _ (Qq (Q0 ?_))); clear hK K)
  refine Q1 [_] rfl (QJ rfl QX) (by rw [show decide ((0 ≤ n ∧ n ≤ 15) ∧ 0 ≤ m ∧ m ≤ 63) = decide (m < 64) from decide_eq_decide.2 ⟨fun h2 => by omega, fun h2 => by omega⟩]; rfl) rfl
set_option maxHeartbeats 4000000 in
theorem jCheck_ok (r : Rs) : Ok Tryz.prog 76 [rsC r] (intC (ckE r)) := by
  refine Ok.enter Tryz.func76 rfl _ Tryz.ntmps76 rfl ?_
  intro S w
  (refine Qw (Qx fun K hK => ?_); refine Qf 0 rfl rfl rfl rfl rfl rfl rfl ?_; refine Qy rfl rfl rfl ?_; refine Qv (hK _ _ (Qq (Qw ?_))); clear hK K; refine Qx (fun K hK => ?_); refine Qu rfl rfl rfl (by with_reducible first | exact fS0 | exact fS1 | exact fS2 | exact fS3 | exact fS4 | exact fS5 | exact fS6 | exact fS7 | exact fS8 | exact fS9 | exact fS10 | exact fS11 | exact fN0 | exact fN1 | exact fN2 | exact fN3 | exact fN4 | exact fN5) rfl ?_)
  refine Zn (n := 6) rfl rfl rfl rfl (Nat.le_of_ble_eq_true rfl) (by with_reducible exact lAns) rfl ?_
  refine Qo 1 rfl rfl (by with_reducible exact zvAns) rfl rfl rfl ?_
  refine Qr 6 rfl rfl rfl rfl rfl (by with_reducible exact szAns) rfl rfl ?_
  (refine Qv (hK _ _ (Qq (Qw (Q4 (Qw (Qw ?_)))))); clear hK K; refine Qx (fun K hK => ?_); refine Qu rfl rfl rfl (by with_reducible first | exact fS0 | exact fS1 | exact fS2 | exact fS3 | exact fS4 | exact fS5 | exact fS6 | exact fS7 | exact fS8 | exact fS9 | exact fS10 | exact fS11 | exact fN0 | exact fN1 | exact fN2 | exact fN3 | exact fN4 | exact fN5) rfl ?_; refine QQ rfl rfl rfl rfl rfl (by with_reducible first | exact lInt | exact QU | exact Qi | exact Xx) rfl ?_; refine Qu rfl rfl rfl (by with_reducible first | exact fS0 | exact fS1 | exact fS2 | exact fS3 | exact fS4 | exact fS5 | exact fS6 | exact fS7 | exact fS8 | exact fS9 | exact fS10 | exact fS11 | exact fN0 | exact fN1 | exact fN2 | exact fN3 | exact fN4 | exact fN5) rfl ?_; refine QQ rfl rfl rfl rfl rfl (by with_reducible first | exact lInt | exact QU | exact Qi | exact Xx) rfl ?_)
  refine Q3 gojrun (jrun_ok r.va r.ru) rfl rfl rfl rfl ?_
  refine Q8 11 rfl (fun h1 => ?_) (fun h1 => ?_)
  rotate_left
  · (refine Qb rfl rfl rfl ?_; refine Qy rfl rfl rfl ?_; refine Qv (hK _ _ (Qq (Qc rfl (Q5 (Qq (Qc rfl (Qw ?_))))))); clear hK K; refine Qx (fun K hK => ?_); refine Qy rfl rfl rfl ?_; refine Qv (hK _ _ (Qq (Q0 (Q6 (QV ?_))))); clear hK K)
    refine Q1 [_] rfl (QJ rfl QX) (by rw [show ckE r = 1 from if_pos (by unfold P1; omega)]; rfl) rfl
  (refine Qb rfl rfl rfl ?_; refine Qy rfl rfl rfl ?_; refine Qv (hK _ _ (Qq (Qe rfl (Qw ?_)))); clear hK K; refine Qx (fun K hK => ?_); refine Qu rfl rfl rfl (by with_reducible first | exact fS0 | exact fS1 | exact fS2 | exact fS3 | exact fS4 | exact fS5 | exact fS6 | exact fS7 | exact fS8 | exact fS9 | exact fS10 | exact fS11 | exact fN0 | exact fN1 | exact fN2 | exact fN3 | exact fN4 | exact fN5) rfl ?_; refine QQ rfl rfl rfl rfl rfl (by with_reducible first | exact lInt | exact QU | exact Qi | exact Xx) rfl ?_)
  refine Q3 ZQ (Zq r.nu 999) rfl rfl rfl rfl ?_
  refine Q8 15 rfl (fun h2 => ?_) (fun h2 => ?_)
  rotate_left
  · (refine Qb rfl rfl rfl ?_; refine Qy rfl rfl rfl ?_; refine Qv (hK _ _ (Qq (Qc rfl (Q5 (Qq (Qc rfl (Qw ?_))))))); clear hK K; refine Qx (fun K hK => ?_); refine Qy rfl rfl rfl ?_; refine Qv (hK _ _ (Qq (Q0 (Q6 (QV ?_))))); clear hK K)
    refine Q1 [_] rfl (QJ rfl QX) (by rw [show ckE r = 1 from if_pos (by unfold P1; omega)]; rfl) rfl
  (refine Qb rfl rfl rfl ?_; refine Qy rfl rfl rfl ?_; refine Qv (hK _ _ (Qq (Qe rfl (Qw ?_)))); clear hK K; refine Qx (fun K hK => ?_); refine Qu rfl rfl rfl (by with_reducible first | exact fS0 | exact fS1 | exact fS2 | exact fS3 | exact fS4 | exact fS5 | exact fS6 | exact fS7 | exact fS8 | exact fS9 | exact fS10 | exact fS11 | exact fN0 | exact fN1 | exact fN2 | exact fN3 | exact fN4 | exact fN5) rfl ?_; refine QQ rfl rfl rfl rfl rfl (by with_reducible first | exact lInt | exact QU | exact Qi | exact Xx) rfl ?_)
  refine Q3 ZQ (Zq r.tm 2251799813685248) rfl rfl rfl rfl ?_
  refine Q8 19 rfl (fun h3 => ?_) (fun h3 => ?_)
  rotate_left
  · (refine Qb rfl rfl rfl ?_; refine Qy rfl rfl rfl ?_; refine Qv (hK _ _ (Qq (Qc rfl (Q5 (Qq (Qc rfl (Qw ?_))))))); clear hK K; refine Qx (fun K hK => ?_); refine Qy rfl rfl rfl ?_; refine Qv (hK _ _ (Qq (Q0 (Q6 (QV ?_))))); clear hK K)
    refine Q1 [_] rfl (QJ rfl QX) (by rw [show ckE r = 1 from if_pos (by unfold P1; omega)]; rfl) rfl
  (refine Qb rfl rfl rfl ?_; refine Qy rfl rfl rfl ?_; refine Qv (hK _ _ (Qq (Qe rfl (Qw ?_)))); clear hK K; refine Qx (fun K hK => ?_); refine Qu rfl rfl rfl (by with_reducible first | exact fS0 | exact fS1 | exact fS2 | exact fS3 | exact fS4 | exact fS5 | exact fS6 | exact fS7 | exact fS8 | exact fS9 | exact fS10 | exact fS11 | exact fN0 | exact fN1 | exact fN2 | exact fN3 | exact fN4 | exact fN5) rfl ?_; refine QQ rfl rfl rfl rfl rfl (by with_reducible first | exact lInt | exact QU | exact Qi | exact Xx) rfl ?_)
  refine Q3 ZQ (Zq r.bk 2251799813685248) rfl rfl rfl rfl ?_
  refine Q8 23 rfl (fun h4 => ?_) (fun h4 => ?_)
  rotate_left
  · (refine Qb rfl rfl rfl ?_; refine Qy rfl rfl rfl ?_; refine Qv (hK _ _ (Qq (Qc rfl (Q5 (Qq (Qc rfl (Qw ?_))))))); clear hK K; refine Qx (fun K hK => ?_); refine Qy rfl rfl rfl ?_; refine Qv (hK _ _ (Qq (Q0 (Q6 (QV ?_))))); clear hK K)
    refine Q1 [_] rfl (QJ rfl QX) (by rw [show ckE r = 1 from if_pos (by unfold P1; omega)]; rfl) rfl
  (refine Qb rfl rfl rfl ?_; refine Qy rfl rfl rfl ?_; refine Qv (hK _ _ (Qq (Qe rfl (Qw ?_)))); clear hK K; refine Qx (fun K hK => ?_); refine Qu rfl rfl rfl (by with_reducible first | exact fS0 | exact fS1 | exact fS2 | exact fS3 | exact fS4 | exact fS5 | exact fS6 | exact fS7 | exact fS8 | exact fS9 | exact fS10 | exact fS11 | exact fN0 | exact fN1 | exact fN2 | exact fN3 | exact fN4 | exact fN5) rfl ?_; refine QQ rfl rfl rfl rfl rfl (by with_reducible first | exact lInt | exact QU | exact Qi | exact Xx) rfl ?_; refine Qu rfl rfl rfl (by with_reducible first | exact fS0 | exact fS1 | exact fS2 | exact fS3 | exact fS4 | exact fS5 | exact fS6 | exact fS7 | exact fS8 | exact fS9 | exact fS10 | exact fS11 | exact fN0 | exact fN1 | exact fN2 | exact fN3 | exact fN4 | exact fN5) rfl ?_; refine QQ rfl rfl rfl rfl rfl (by with_reducible first | exact lInt | exact QU | exact Qi | exact Xx) rfl ?_; refine Qk ilss rfl rfl rfl rfl ?_; refine Qy rfl rfl rfl ?_; refine Qv (hK _ _ (Qq ?_)); clear hK K)
  refine Q7 rfl (fun h5 => ?_) (fun h5 => ?_)
  · (refine Q5 (Qq ?_))
    refine Q7 rfl (fun _ => ?_) (fun h => absurd h5 h)
    (refine Qw (Qx fun K hK => ?_); refine Qy rfl rfl rfl ?_; refine Qv (hK _ _ (Qq (Q0 (Q6 (QV ?_))))); clear hK K)
    refine Q1 [_] rfl (QJ rfl QX) (by rw [show ckE r = 1 from if_pos (by unfold P1; omega)]; rfl) rfl
  (refine Qw (Qx fun K hK => ?_); refine Qu rfl rfl rfl (by with_reducible first | exact fS0 | exact fS1 | exact fS2 | exact fS3 | exact fS4 | exact fS5 | exact fS6 | exact fS7 | exact fS8 | exact fS9 | exact fS10 | exact fS11 | exact fN0 | exact fN1 | exact fN2 | exact fN3 | exact fN4 | exact fN5) rfl ?_; refine QQ rfl rfl rfl rfl rfl (by with_reducible first | exact lInt | exact QU | exact Qi | exact Xx) rfl ?_)
  refine Q3 ZQ (Zq r.fl 1023) rfl rfl rfl rfl ?_
  refine Q8 32 rfl (fun h6 => ?_) (fun h6 => ?_)
  rotate_left
  · (refine Qb rfl rfl rfl ?_; refine Qy rfl rfl rfl ?_; refine Qv (hK _ _ (Qq (Qc rfl (Q5 (Qq (Qc rfl (Qw ?_))))))); clear hK K; refine Qx (fun K hK => ?_); refine Qy rfl rfl rfl ?_; refine Qv (hK _ _ (Qq (Q0 (Q6 (QV ?_))))); clear hK K)
    refine Q1 [_] rfl (QJ rfl QX) (by rw [show ckE r = 1 from if_pos (by unfold P1; omega)]; rfl) rfl
  (refine Qb rfl rfl rfl ?_; refine Qy rfl rfl rfl ?_; refine Qv (hK _ _ (Qq (Qe rfl ?_))); clear hK K; refine Qx (fun K hK => ?_); refine Qu rfl rfl rfl (by with_reducible first | exact fS0 | exact fS1 | exact fS2 | exact fS3 | exact fS4 | exact fS5 | exact fS6 | exact fS7 | exact fS8 | exact fS9 | exact fS10 | exact fS11 | exact fN0 | exact fN1 | exact fN2 | exact fN3 | exact fN4 | exact fN5) rfl ?_; refine QQ rfl rfl rfl rfl rfl (by with_reducible first | exact lInt | exact QU | exact Qi | exact Xx) rfl ?_; refine Qk ilss rfl rfl rfl rfl ?_; refine Qz rfl rfl rfl ?_)
  refine Q8 37 rfl (fun h7 => ?_) (fun h7 => ?_)
  · (refine Qj rfl rfl rfl ?_; refine Qj rfl rfl rfl ?_; refine Qj rfl rfl rfl ?_; refine QZ rfl rfl rfl rfl ?_; refine Qy rfl rfl rfl ?_; refine Qv (hK _ _ (Qq (Qc rfl (Qw ?_)))); clear hK K; refine Qx (fun K hK => ?_); refine Qy rfl rfl rfl ?_; refine Qv (hK _ _ (Qq (Q0 (Q6 (QV ?_))))); clear hK K)
    refine Q1 [_] rfl (QJ rfl QX) (by rw [show ckE r = 1 from if_pos (by unfold P1; omega)]; rfl) rfl
  (refine Qu rfl rfl rfl (by with_reducible first | exact fS0 | exact fS1 | exact fS2 | exact fS3 | exact fS4 | exact fS5 | exact fS6 | exact fS7 | exact fS8 | exact fS9 | exact fS10 | exact fS11 | exact fN0 | exact fN1 | exact fN2 | exact fN3 | exact fN4 | exact fN5) rfl ?_; refine QQ rfl rfl rfl rfl rfl (by with_reducible first | exact lInt | exact QU | exact Qi | exact Xx) rfl ?_; refine Qk igtr rfl rfl rfl rfl ?_; refine Q2 rfl rfl rfl rfl ?_; refine Qy rfl rfl rfl ?_; refine Qv (hK _ _ (Qq ?_)); clear hK K)
  refine Q7 rfl (fun h8 => ?_) (fun h8 => ?_)
  · (refine Qw (Qx fun K hK => ?_); refine Qy rfl rfl rfl ?_; refine Qv (hK _ _ (Qq (Q0 (Q6 (QV ?_))))); clear hK K)
    refine Q1 [_] rfl (QJ rfl QX) (by rw [show ckE r = 1 from if_pos (by unfold P1; omega)]; rfl) rfl
  have n1 : ¬ P1 r := by unfold P1; omega
  clear h1 h2 h3 h4 h5 h6 h7 h8
  refine Qw ?_
  refine Ze (α := Bool) (fun b => b = decide (P2 r)) (fun b => [(1, .own 0), (3, .own 1), (42, .ct (boolC b))]) (fun _ => [(1, .box 75 [adrC r.fr.val, intC r.ki, intC r.co, intC r.le, intC r.id, intC r.qu]), (0, .box 77 (rsCs r))]) (fun b hb => ?_) (fun KK hN => ?_)
  rotate_left
  · (refine Qx (fun K hK => ?_); refine Qu rfl rfl rfl (by with_reducible first | exact fS0 | exact fS1 | exact fS2 | exact fS3 | exact fS4 | exact fS5 | exact fS6 | exact fS7 | exact fS8 | exact fS9 | exact fS10 | exact fS11 | exact fN0 | exact fN1 | exact fN2 | exact fN3 | exact fN4 | exact fN5) rfl ?_; refine QQ rfl rfl rfl rfl rfl (by with_reducible first | exact lInt | exact QU | exact Qi | exact Xx) rfl ?_; refine Qk ineq rfl rfl rfl rfl ?_; refine Qz rfl rfl rfl ?_)
    refine Q8 46 rfl (fun h9 => ?_) (fun h9 => ?_)
    · (refine Qu rfl rfl rfl (by with_reducible first | exact fS0 | exact fS1 | exact fS2 | exact fS3 | exact fS4 | exact fS5 | exact fS6 | exact fS7 | exact fS8 | exact fS9 | exact fS10 | exact fS11 | exact fN0 | exact fN1 | exact fN2 | exact fN3 | exact fN4 | exact fN5) rfl ?_; refine QQ rfl rfl rfl rfl rfl (by with_reducible first | exact lInt | exact QU | exact Qi | exact Xx) rfl ?_; refine Qk ineq rfl rfl rfl rfl ?_; refine QZ rfl rfl rfl rfl ?_; refine Qz rfl rfl rfl ?_)
      refine Q8 51 rfl (fun h10 => ?_) (fun h10 => ?_)
      · (refine Qu rfl rfl rfl (by with_reducible first | exact fS0 | exact fS1 | exact fS2 | exact fS3 | exact fS4 | exact fS5 | exact fS6 | exact fS7 | exact fS8 | exact fS9 | exact fS10 | exact fS11 | exact fN0 | exact fN1 | exact fN2 | exact fN3 | exact fN4 | exact fN5) rfl ?_; refine QQ rfl rfl rfl rfl rfl (by with_reducible first | exact lInt | exact QU | exact Qi | exact Xx) rfl ?_; refine Qk ineq rfl rfl rfl rfl ?_; refine QZ rfl rfl rfl rfl ?_; refine Qy rfl rfl rfl ?_; refine Qv (hK _ _ ?_); clear hK K)
        exact Xj hN (decide (r.pr ≠ 17)) (decide_eq_decide.2 ⟨fun h => ⟨h9, h10, h⟩, fun h => h.2.2⟩) (by exact QK rfl ⟨rfl, rfl, rfl, trivial⟩)
      · (refine Qj rfl rfl rfl ?_; refine Qj rfl rfl rfl ?_; refine Qj rfl rfl rfl ?_; refine Q2 rfl rfl rfl rfl ?_; refine Qy rfl rfl rfl ?_; refine Qv (hK _ _ ?_); clear hK K)
        exact Xj hN false (decide_eq_false (fun h => h10 h.2.1)).symm (by exact QK rfl ⟨rfl, rfl, rfl, trivial⟩)
    · (refine Qj rfl rfl rfl ?_; refine Qj rfl rfl rfl ?_; refine Qj rfl rfl rfl ?_; refine Q2 rfl rfl rfl rfl ?_; refine Qz rfl rfl rfl ?_; refine Qj rfl rfl rfl ?_; refine Qj rfl rfl rfl ?_; refine Qj rfl rfl rfl ?_; refine Q2 rfl rfl rfl rfl ?_; refine Qy rfl rfl rfl ?_; refine Qv (hK _ _ ?_); clear hK K)
      exact Xj hN false (decide_eq_false (fun h => h9 h.1)).symm (by exact QK rfl ⟨rfl, rfl, rfl, trivial⟩)
  subst hb
  skip
  refine X5 rfl (fun h9 => ?_) (fun h9 => ?_)
  · (refine Qw (Qx fun K hK => ?_); refine Qy rfl rfl rfl ?_; refine Qv (hK _ _ (Qq (Q0 (Q6 (QV ?_))))); clear hK K)
    refine Q1 [_] rfl (QJ rfl QX) (by rw [show ckE r = 16 from (if_neg n1).trans (if_pos (of_decide_eq_true h9))]; rfl) rfl
  have n2 : ¬ P2 r := of_decide_eq_false h9
  have hbx : rsCs r = [intC r.va, intC r.ru, intC r.nu, intC r.tm, adrC r.dst.val, intC r.pr, intC r.fl, intC r.tt, boolC r.an, boolC r.db, intC r.bk, adrC r.fr.val, intC r.ki, intC r.co, intC r.le, intC r.id, intC r.qu] := rfl
  rw [hbx]
  clear hbx h9
  have e3 : P3 r = (r.an = false ∧ (r.db = true ∨ anI r ≠ [0, 0, 0, 0, 0, 0])) := rfl
  have e4 : P4 r = (r.an = true ∧ (r.ki < 1 ∨ 5 < r.ki ∨ r.co < 0 ∨ 255 < r.co ∨ r.le < 0 ∨ 255 < r.le ∨ r.qu < 0 ∨ 255 < r.qu ∨ r.id < 0 ∨ 65535 < r.id)) := rfl
  generalize han : r.an = an at e3 e4 ⊢
  generalize hdb : r.db = db at e3 ⊢
  cases an with
  | false =>
    cases db with
    | true =>
      (refine Qw (Qw (Qx fun K hK => ?_)); refine Qu rfl rfl rfl (by with_reducible first | exact fS0 | exact fS1 | exact fS2 | exact fS3 | exact fS4 | exact fS5 | exact fS6 | exact fS7 | exact fS8 | exact fS9 | exact fS10 | exact fS11 | exact fN0 | exact fN1 | exact fN2 | exact fN3 | exact fN4 | exact fN5) rfl ?_; refine QQ rfl rfl rfl rfl rfl (by with_reducible first | exact lInt | exact QU | exact Qi | exact Xx) rfl ?_; refine Qz rfl rfl rfl ?_; refine Qu rfl rfl rfl (by with_reducible first | exact fS0 | exact fS1 | exact fS2 | exact fS3 | exact fS4 | exact fS5 | exact fS6 | exact fS7 | exact fS8 | exact fS9 | exact fS10 | exact fS11 | exact fN0 | exact fN1 | exact fN2 | exact fN3 | exact fN4 | exact fN5) rfl ?_; refine QQ rfl rfl rfl rfl rfl (by with_reducible first | exact lInt | exact QU | exact Qi | exact Xx) rfl ?_; refine Qb rfl rfl rfl ?_; refine QZ rfl rfl rfl rfl ?_; refine Qy rfl rfl rfl ?_; refine Qv (hK _ _ (Qq (Qc rfl (Q5 (Qq (Qc rfl (Qw ?_))))))); clear hK K; refine Qx (fun K hK => ?_); refine Qy rfl rfl rfl ?_; refine Qv (hK _ _ (Qq (Q0 (Q6 (QV ?_))))); clear hK K)
      refine Q1 [_] rfl (QJ rfl QX) (by rw [show ckE r = 7 from (if_neg n1).trans ((if_neg n2).trans (if_pos (by rw [e3]; exact ⟨rfl, .inl rfl⟩)))]; rfl) rfl
    | false =>
      (refine Qw (Qw (Qx fun K hK => ?_)); refine Qu rfl rfl rfl (by with_reducible first | exact fS0 | exact fS1 | exact fS2 | exact fS3 | exact fS4 | exact fS5 | exact fS6 | exact fS7 | exact fS8 | exact fS9 | exact fS10 | exact fS11 | exact fN0 | exact fN1 | exact fN2 | exact fN3 | exact fN4 | exact fN5) rfl ?_; refine QQ rfl rfl rfl rfl rfl (by with_reducible first | exact lInt | exact QU | exact Qi | exact Xx) rfl ?_; refine Qz rfl rfl rfl ?_; refine Qj rfl rfl rfl ?_; refine Qj rfl rfl rfl ?_; refine Qj rfl rfl rfl ?_; refine Q2 rfl rfl rfl rfl ?_; refine Qy rfl rfl rfl ?_; refine Qv (hK _ _ (Qq (Qe rfl ?_))); clear hK K; refine Qx (fun K hK => ?_); refine Qu rfl rfl rfl (by with_reducible first | exact fS0 | exact fS1 | exact fS2 | exact fS3 | exact fS4 | exact fS5 | exact fS6 | exact fS7 | exact fS8 | exact fS9 | exact fS10 | exact fS11 | exact fN0 | exact fN1 | exact fN2 | exact fN3 | exact fN4 | exact fN5) rfl ?_; refine QQ rfl rfl rfl rfl rfl (by with_reducible first | exact lInt | exact QU | exact Qi | exact Xx) rfl ?_; refine Qb rfl rfl rfl ?_; refine Qz rfl rfl rfl ?_)
      refine Qm (n := 6) rfl rfl rfl rfl rfl (by with_reducible exact lAns) rfl ?_
      refine Xq rfl (by with_reducible exact bAns) rfl .nil rfl ?_
      refine Ops.neS (ks := [.u32, .i64, .i64, .i64, .i64, .i64]) (anI r) [0, 0, 0, 0, 0, 0] rfl rfl rfl rfl rfl (by with_reducible exact eAns) rfl ?_
      (refine QZ rfl rfl rfl rfl ?_; refine Qy rfl rfl rfl ?_; refine Qv (hK _ _ (Qq ?_)); clear hK K)
      refine X5 rfl (fun k0 => ?_) (fun k0 => ?_)
      · (refine Qw (Qx fun K hK => ?_); refine Qy rfl rfl rfl ?_; refine Qv (hK _ _ (Qq (Q0 (Q6 (QV ?_))))); clear hK K)
        refine Q1 [_] rfl (QJ rfl QX) (by rw [show ckE r = 7 from (if_neg n1).trans ((if_neg n2).trans (if_pos (by rw [e3]; exact ⟨rfl, .inr (of_decide_eq_false (by simpa using k0))⟩)))]; rfl) rfl
      · have n3 : ¬ P3 r := by rw [e3]; exact fun h => h.2.elim (fun h => by cases h) (fun h => h (by simpa using k0))
        have n4 : ¬ P4 r := by rw [e4]; exact fun h => by cases h.1
        (refine Qw (Qx fun K hK => ?_); refine Qu rfl rfl rfl (by with_reducible first | exact fS0 | exact fS1 | exact fS2 | exact fS3 | exact fS4 | exact fS5 | exact fS6 | exact fS7 | exact fS8 | exact fS9 | exact fS10 | exact fS11 | exact fN0 | exact fN1 | exact fN2 | exact fN3 | exact fN4 | exact fN5) rfl ?_; refine QQ rfl rfl rfl rfl rfl (by with_reducible first | exact lInt | exact QU | exact Qi | exact Xx) rfl ?_; refine Qz rfl rfl rfl ?_; refine Qj rfl rfl rfl ?_; refine Qj rfl rfl rfl ?_; refine Qj rfl rfl rfl ?_; refine Qj rfl rfl rfl ?_; refine Qj rfl rfl rfl ?_; refine Qj rfl rfl rfl ?_; refine Qj rfl rfl rfl ?_; refine Qj rfl rfl rfl ?_; refine Qj rfl rfl rfl ?_; refine Qj rfl rfl rfl ?_; refine Qj rfl rfl rfl ?_; refine Qj rfl rfl rfl ?_; refine Qj rfl rfl rfl ?_; refine Qj rfl rfl rfl ?_; refine Qj rfl rfl rfl ?_; refine Qj rfl rfl rfl ?_; refine Qj rfl rfl rfl ?_; refine Qj rfl rfl rfl ?_; refine Qj rfl rfl rfl ?_; refine Qj rfl rfl rfl ?_; refine Qj rfl rfl rfl ?_; refine Qj rfl rfl rfl ?_; refine Qj rfl rfl rfl ?_; refine Qj rfl rfl rfl ?_; refine Qj rfl rfl rfl ?_; refine Qj rfl rfl rfl ?_; refine Qj rfl rfl rfl ?_; refine Qj rfl rfl rfl ?_; refine Qj rfl rfl rfl ?_; refine Qj rfl rfl rfl ?_; refine Qj rfl rfl rfl ?_; refine Qj rfl rfl rfl ?_; refine Q2 rfl rfl rfl rfl ?_; refine Qy rfl rfl rfl ?_; refine Qv (hK _ _ (Qq (Qe rfl (Q5 (Qq (Qw ?_)))))); clear hK K; refine Qx (fun K hK => ?_); refine Qy rfl rfl rfl ?_; refine Qv (hK _ _ (Qq (Q0 ?_))); clear hK K)
        refine Q1 [_] rfl (QJ rfl QX) (by rw [show ckE r = 0 from (if_neg n1).trans ((if_neg n2).trans ((if_neg n3).trans (if_neg n4)))]; rfl) rfl
  | true =>
    have n3 : ¬ P3 r := by rw [e3]; exact fun h => by cases h.1
    cases db with
    | false =>
      (refine Qw (Qw (Qx fun K hK => ?_)); refine Qu rfl rfl rfl (by with_reducible first | exact fS0 | exact fS1 | exact fS2 | exact fS3 | exact fS4 | exact fS5 | exact fS6 | exact fS7 | exact fS8 | exact fS9 | exact fS10 | exact fS11 | exact fN0 | exact fN1 | exact fN2 | exact fN3 | exact fN4 | exact fN5) rfl ?_; refine QQ rfl rfl rfl rfl rfl (by with_reducible first | exact lInt | exact QU | exact Qi | exact Xx) rfl ?_; refine Qz rfl rfl rfl ?_; refine Qj rfl rfl rfl ?_; refine Qj rfl rfl rfl ?_; refine Qj rfl rfl rfl ?_; refine Q2 rfl rfl rfl rfl ?_; refine Qy rfl rfl rfl ?_; refine Qv (hK _ _ (Qq (Qe rfl ?_))); clear hK K; refine Qx (fun K hK => ?_); refine Qu rfl rfl rfl (by with_reducible first | exact fS0 | exact fS1 | exact fS2 | exact fS3 | exact fS4 | exact fS5 | exact fS6 | exact fS7 | exact fS8 | exact fS9 | exact fS10 | exact fS11 | exact fN0 | exact fN1 | exact fN2 | exact fN3 | exact fN4 | exact fN5) rfl ?_; refine QQ rfl rfl rfl rfl rfl (by with_reducible first | exact lInt | exact QU | exact Qi | exact Xx) rfl ?_; refine Qb rfl rfl rfl ?_; refine Qz rfl rfl rfl ?_; refine Qj rfl rfl rfl ?_; refine Qj rfl rfl rfl ?_; refine Qj rfl rfl rfl ?_; refine Q2 rfl rfl rfl rfl ?_; refine Qy rfl rfl rfl ?_; refine Qv (hK _ _ (Qq (Qe rfl (Qw ?_)))); clear hK K; refine Qx (fun K hK => ?_); refine Qu rfl rfl rfl (by with_reducible first | exact fS0 | exact fS1 | exact fS2 | exact fS3 | exact fS4 | exact fS5 | exact fS6 | exact fS7 | exact fS8 | exact fS9 | exact fS10 | exact fS11 | exact fN0 | exact fN1 | exact fN2 | exact fN3 | exact fN4 | exact fN5) rfl ?_; refine QQ rfl rfl rfl rfl rfl (by with_reducible first | exact lInt | exact QU | exact Qi | exact Xx) rfl ?_; refine Qz rfl rfl rfl ?_; refine Qu rfl rfl rfl (by with_reducible first | exact fS0 | exact fS1 | exact fS2 | exact fS3 | exact fS4 | exact fS5 | exact fS6 | exact fS7 | exact fS8 | exact fS9 | exact fS10 | exact fS11 | exact fN0 | exact fN1 | exact fN2 | exact fN3 | exact fN4 | exact fN5) rfl ?_; refine QQ rfl rfl rfl rfl rfl (by with_reducible first | exact lInt | exact QU | exact Qi | exact Xx) rfl ?_; refine Qk ilss rfl rfl rfl rfl ?_; refine Qz rfl rfl rfl ?_)
      refine Q8 79 rfl (fun k1 => ?_) (fun k1 => ?_)
      · (refine Qj rfl rfl rfl ?_; refine Qj rfl rfl rfl ?_; refine Qj rfl rfl rfl ?_; refine QZ rfl rfl rfl rfl ?_; refine Qz rfl rfl rfl ?_; refine Qj rfl rfl rfl ?_; refine Qj rfl rfl rfl ?_; refine Qj rfl rfl rfl ?_; refine Qj rfl rfl rfl ?_; refine QZ rfl rfl rfl rfl ?_; refine Qz rfl rfl rfl ?_; refine Qj rfl rfl rfl ?_; refine Qj rfl rfl rfl ?_; refine Qj rfl rfl rfl ?_; refine Qj rfl rfl rfl ?_; refine QZ rfl rfl rfl rfl ?_; refine Qz rfl rfl rfl ?_; refine Qj rfl rfl rfl ?_; refine Qj rfl rfl rfl ?_; refine Qj rfl rfl rfl ?_; refine Qj rfl rfl rfl ?_; refine QZ rfl rfl rfl rfl ?_; refine Qz rfl rfl rfl ?_; refine Qj rfl rfl rfl ?_; refine Qj rfl rfl rfl ?_; refine Qj rfl rfl rfl ?_; refine Qj rfl rfl rfl ?_; refine QZ rfl rfl rfl rfl ?_; refine QZ rfl rfl rfl rfl ?_; refine Qy rfl rfl rfl ?_; refine Qv (hK _ _ (Qq (Qc rfl (Qw ?_)))); clear hK K; refine Qx (fun K hK => ?_); refine Qy rfl rfl rfl ?_; refine Qv (hK _ _ (Qq (Q0 (Q6 (QV ?_))))); clear hK K)
        refine Q1 [_] rfl (QJ rfl QX) (by rw [show ckE r = 1 from (if_neg n1).trans ((if_neg n2).trans ((if_neg n3).trans (if_pos (by rw [e4]; exact ⟨rfl, by omega⟩))))]; rfl) rfl
      (refine Qu rfl rfl rfl (by with_reducible first | exact fS0 | exact fS1 | exact fS2 | exact fS3 | exact fS4 | exact fS5 | exact fS6 | exact fS7 | exact fS8 | exact fS9 | exact fS10 | exact fS11 | exact fN0 | exact fN1 | exact fN2 | exact fN3 | exact fN4 | exact fN5) rfl ?_; refine QQ rfl rfl rfl rfl rfl (by with_reducible first | exact lInt | exact QU | exact Qi | exact Xx) rfl ?_; refine Qk igtr rfl rfl rfl rfl ?_; refine Q2 rfl rfl rfl rfl ?_; refine Qz rfl rfl rfl ?_)
      refine Q8 84 rfl (fun k2 => ?_) (fun k2 => ?_)
      · (refine Qj rfl rfl rfl ?_; refine Qj rfl rfl rfl ?_; refine Qj rfl rfl rfl ?_; refine Qj rfl rfl rfl ?_; refine QZ rfl rfl rfl rfl ?_; refine Qz rfl rfl rfl ?_; refine Qj rfl rfl rfl ?_; refine Qj rfl rfl rfl ?_; refine Qj rfl rfl rfl ?_; refine Qj rfl rfl rfl ?_; refine QZ rfl rfl rfl rfl ?_; refine Qz rfl rfl rfl ?_; refine Qj rfl rfl rfl ?_; refine Qj rfl rfl rfl ?_; refine Qj rfl rfl rfl ?_; refine Qj rfl rfl rfl ?_; refine QZ rfl rfl rfl rfl ?_; refine Qz rfl rfl rfl ?_; refine Qj rfl rfl rfl ?_; refine Qj rfl rfl rfl ?_; refine Qj rfl rfl rfl ?_; refine Qj rfl rfl rfl ?_; refine QZ rfl rfl rfl rfl ?_; refine QZ rfl rfl rfl rfl ?_; refine Qy rfl rfl rfl ?_; refine Qv (hK _ _ (Qq (Qc rfl (Qw ?_)))); clear hK K; refine Qx (fun K hK => ?_); refine Qy rfl rfl rfl ?_; refine Qv (hK _ _ (Qq (Q0 (Q6 (QV ?_))))); clear hK K)
        refine Q1 [_] rfl (QJ rfl QX) (by rw [show ckE r = 1 from (if_neg n1).trans ((if_neg n2).trans ((if_neg n3).trans (if_pos (by rw [e4]; exact ⟨rfl, by omega⟩))))]; rfl) rfl
      (refine Qu rfl rfl rfl (by with_reducible first | exact fS0 | exact fS1 | exact fS2 | exact fS3 | exact fS4 | exact fS5 | exact fS6 | exact fS7 | exact fS8 | exact fS9 | exact fS10 | exact fS11 | exact fN0 | exact fN1 | exact fN2 | exact fN3 | exact fN4 | exact fN5) rfl ?_; refine QQ rfl rfl rfl rfl rfl (by with_reducible first | exact lInt | exact QU | exact Qi | exact Xx) rfl ?_)
      refine Q3 ZQ (Zq r.co 255) rfl rfl rfl rfl ?_
      refine Q8 87 rfl (fun k3 => ?_) (fun k3 => ?_)
      rotate_left
      · (refine Qb rfl rfl rfl ?_; refine Q2 rfl rfl rfl rfl ?_; refine Qz rfl rfl rfl ?_; refine Qj rfl rfl rfl ?_; refine Qj rfl rfl rfl ?_; refine Qj rfl rfl rfl ?_; refine Qj rfl rfl rfl ?_; refine QZ rfl rfl rfl rfl ?_; refine Qz rfl rfl rfl ?_; refine Qj rfl rfl rfl ?_; refine Qj rfl rfl rfl ?_; refine Qj rfl rfl rfl ?_; refine Qj rfl rfl rfl ?_; refine QZ rfl rfl rfl rfl ?_; refine Qz rfl rfl rfl ?_; refine Qj rfl rfl rfl ?_; refine Qj rfl rfl rfl ?_; refine Qj rfl rfl rfl ?_; refine Qj rfl rfl rfl ?_; refine QZ rfl rfl rfl rfl ?_; refine QZ rfl rfl rfl rfl ?_; refine Qy rfl rfl rfl ?_; refine Qv (hK _ _ (Qq (Qc rfl (Qw ?_)))); clear hK K; refine Qx (fun K hK => ?_); refine Qy rfl rfl rfl ?_; refine Qv (hK _ _ (Qq (Q0 (Q6 (QV ?_))))); clear hK K)
        refine Q1 [_] rfl (QJ rfl QX) (by rw [show ckE r = 1 from (if_neg n1).trans ((if_neg n2).trans ((if_neg n3).trans (if_pos (by rw [e4]; exact ⟨rfl, by omega⟩))))]; rfl) rfl
      (refine Qb rfl rfl rfl ?_; refine Q2 rfl rfl rfl rfl ?_; refine Qz rfl rfl rfl ?_; refine Qu rfl rfl rfl (by with_reducible first | exact fS0 | exact fS1 | exact fS2 | exact fS3 | exact fS4 | exact fS5 | exact fS6 | exact fS7 | exact fS8 | exact fS9 | exact fS10 | exact fS11 | exact fN0 | exact fN1 | exact fN2 | exact fN3 | exact fN4 | exact fN5) rfl ?_; refine QQ rfl rfl rfl rfl rfl (by with_reducible first | exact lInt | exact QU | exact Qi | exact Xx) rfl ?_)
      refine Q3 ZQ (Zq r.le 255) rfl rfl rfl rfl ?_
      refine Q8 93 rfl (fun k4 => ?_) (fun k4 => ?_)
      rotate_left
      · (refine Qb rfl rfl rfl ?_; refine Q2 rfl rfl rfl rfl ?_; refine Qz rfl rfl rfl ?_; refine Qj rfl rfl rfl ?_; refine Qj rfl rfl rfl ?_; refine Qj rfl rfl rfl ?_; refine Qj rfl rfl rfl ?_; refine QZ rfl rfl rfl rfl ?_; refine Qz rfl rfl rfl ?_; refine Qj rfl rfl rfl ?_; refine Qj rfl rfl rfl ?_; refine Qj rfl rfl rfl ?_; refine Qj rfl rfl rfl ?_; refine QZ rfl rfl rfl rfl ?_; refine QZ rfl rfl rfl rfl ?_; refine Qy rfl rfl rfl ?_; refine Qv (hK _ _ (Qq (Qc rfl (Qw ?_)))); clear hK K; refine Qx (fun K hK => ?_); refine Qy rfl rfl rfl ?_; refine Qv (hK _ _ (Qq (Q0 (Q6 (QV ?_))))); clear hK K)
        refine Q1 [_] rfl (QJ rfl QX) (by rw [show ckE r = 1 from (if_neg n1).trans ((if_neg n2).trans ((if_neg n3).trans (if_pos (by rw [e4]; exact ⟨rfl, by omega⟩))))]; rfl) rfl
      (refine Qb rfl rfl rfl ?_; refine Q2 rfl rfl rfl rfl ?_; refine Qz rfl rfl rfl ?_; refine Qu rfl rfl rfl (by with_reducible first | exact fS0 | exact fS1 | exact fS2 | exact fS3 | exact fS4 | exact fS5 | exact fS6 | exact fS7 | exact fS8 | exact fS9 | exact fS10 | exact fS11 | exact fN0 | exact fN1 | exact fN2 | exact fN3 | exact fN4 | exact fN5) rfl ?_; refine QQ rfl rfl rfl rfl rfl (by with_reducible first | exact lInt | exact QU | exact Qi | exact Xx) rfl ?_)
      refine Q3 ZQ (Zq r.qu 255) rfl rfl rfl rfl ?_
      refine Q8 99 rfl (fun k5 => ?_) (fun k5 => ?_)
      rotate_left
      · (refine Qb rfl rfl rfl ?_; refine Q2 rfl rfl rfl rfl ?_; refine Qz rfl rfl rfl ?_; refine Qj rfl rfl rfl ?_; refine Qj rfl rfl rfl ?_; refine Qj rfl rfl rfl ?_; refine Qj rfl rfl rfl ?_; refine QZ rfl rfl rfl rfl ?_; refine QZ rfl rfl rfl rfl ?_; refine Qy rfl rfl rfl ?_; refine Qv (hK _ _ (Qq (Qc rfl (Qw ?_)))); clear hK K; refine Qx (fun K hK => ?_); refine Qy rfl rfl rfl ?_; refine Qv (hK _ _ (Qq (Q0 (Q6 (QV ?_))))); clear hK K)
        refine Q1 [_] rfl (QJ rfl QX) (by rw [show ckE r = 1 from (if_neg n1).trans ((if_neg n2).trans ((if_neg n3).trans (if_pos (by rw [e4]; exact ⟨rfl, by omega⟩))))]; rfl) rfl
      (refine Qb rfl rfl rfl ?_; refine Q2 rfl rfl rfl rfl ?_; refine Qz rfl rfl rfl ?_; refine Qu rfl rfl rfl (by with_reducible first | exact fS0 | exact fS1 | exact fS2 | exact fS3 | exact fS4 | exact fS5 | exact fS6 | exact fS7 | exact fS8 | exact fS9 | exact fS10 | exact fS11 | exact fN0 | exact fN1 | exact fN2 | exact fN3 | exact fN4 | exact fN5) rfl ?_; refine QQ rfl rfl rfl rfl rfl (by with_reducible first | exact lInt | exact QU | exact Qi | exact Xx) rfl ?_)
      refine Q3 ZQ (Zq r.id 65535) rfl rfl rfl rfl ?_
      refine Q8 105 rfl (fun k6 => ?_) (fun k6 => ?_)
      rotate_left
      · (refine Qb rfl rfl rfl ?_; refine Q2 rfl rfl rfl rfl ?_; refine QZ rfl rfl rfl rfl ?_; refine Qy rfl rfl rfl ?_; refine Qv (hK _ _ (Qq (Qc rfl (Qw ?_)))); clear hK K; refine Qx (fun K hK => ?_); refine Qy rfl rfl rfl ?_; refine Qv (hK _ _ (Qq (Q0 (Q6 (QV ?_))))); clear hK K)
        refine Q1 [_] rfl (QJ rfl QX) (by rw [show ckE r = 1 from (if_neg n1).trans ((if_neg n2).trans ((if_neg n3).trans (if_pos (by rw [e4]; exact ⟨rfl, by omega⟩))))]; rfl) rfl
      have n4 : ¬ P4 r := by rw [e4]; exact fun h => by have := h.2; omega
      (refine Qb rfl rfl rfl ?_; refine Q2 rfl rfl rfl rfl ?_; refine QZ rfl rfl rfl rfl ?_; refine Qy rfl rfl rfl ?_; refine Qv (hK _ _ (Qq (Qe rfl (Q5 (Qq (Qw ?_)))))); clear hK K; refine Qx (fun K hK => ?_); refine Qy rfl rfl rfl ?_; refine Qv (hK _ _ (Qq (Q0 ?_))); clear hK K)
      refine Q1 [_] rfl (QJ rfl QX) (by rw [show ckE r = 0 from (if_neg n1).trans ((if_neg n2).trans ((if_neg n3).trans (if_neg n4)))]; rfl) rfl
    | true =>
      (refine Qw (Qw (Qx fun K hK => ?_)); refine Qu rfl rfl rfl (by with_reducible first | exact fS0 | exact fS1 | exact fS2 | exact fS3 | exact fS4 | exact fS5 | exact fS6 | exact fS7 | exact fS8 | exact fS9 | exact fS10 | exact fS11 | exact fN0 | exact fN1 | exact fN2 | exact fN3 | exact fN4 | exact fN5) rfl ?_; refine QQ rfl rfl rfl rfl rfl (by with_reducible first | exact lInt | exact QU | exact Qi | exact Xx) rfl ?_; refine Qz rfl rfl rfl ?_; refine Qu rfl rfl rfl (by with_reducible first | exact fS0 | exact fS1 | exact fS2 | exact fS3 | exact fS4 | exact fS5 | exact fS6 | exact fS7 | exact fS8 | exact fS9 | exact fS10 | exact fS11 | exact fN0 | exact fN1 | exact fN2 | exact fN3 | exact fN4 | exact fN5) rfl ?_; refine QQ rfl rfl rfl rfl rfl (by with_reducible first | exact lInt | exact QU | exact Qi | exact Xx) rfl ?_; refine Qb rfl rfl rfl ?_; refine QZ rfl rfl rfl rfl ?_; refine Qy rfl rfl rfl ?_; refine Qv (hK _ _ (Qq (Qe rfl ?_))); clear hK K; refine Qx (fun K hK => ?_); refine Qu rfl rfl rfl (by with_reducible first | exact fS0 | exact fS1 | exact fS2 | exact fS3 | exact fS4 | exact fS5 | exact fS6 | exact fS7 | exact fS8 | exact fS9 | exact fS10 | exact fS11 | exact fN0 | exact fN1 | exact fN2 | exact fN3 | exact fN4 | exact fN5) rfl ?_; refine QQ rfl rfl rfl rfl rfl (by with_reducible first | exact lInt | exact QU | exact Qi | exact Xx) rfl ?_; refine Qb rfl rfl rfl ?_; refine Qz rfl rfl rfl ?_; refine Qj rfl rfl rfl ?_; refine Qj rfl rfl rfl ?_; refine Qj rfl rfl rfl ?_; refine Q2 rfl rfl rfl rfl ?_; refine Qy rfl rfl rfl ?_; refine Qv (hK _ _ (Qq (Qe rfl (Qw ?_)))); clear hK K; refine Qx (fun K hK => ?_); refine Qu rfl rfl rfl (by with_reducible first | exact fS0 | exact fS1 | exact fS2 | exact fS3 | exact fS4 | exact fS5 | exact fS6 | exact fS7 | exact fS8 | exact fS9 | exact fS10 | exact fS11 | exact fN0 | exact fN1 | exact fN2 | exact fN3 | exact fN4 | exact fN5) rfl ?_; refine QQ rfl rfl rfl rfl rfl (by with_reducible first | exact lInt | exact QU | exact Qi | exact Xx) rfl ?_; refine Qz rfl rfl rfl ?_; refine Qu rfl rfl rfl (by with_reducible first | exact fS0 | exact fS1 | exact fS2 | exact fS3 | exact fS4 | exact fS5 | exact fS6 | exact fS7 | exact fS8 | exact fS9 | exact fS10 | exact fS11 | exact fN0 | exact fN1 | exact fN2 | exact fN3 | exact fN4 | exact fN5) rfl ?_; refine QQ rfl rfl rfl rfl rfl (by with_reducible first | exact lInt | exact QU | exact Qi | exact Xx) rfl ?_; refine Qk ilss rfl rfl rfl rfl ?_; refine Qz rfl rfl rfl ?_)
      refine Q8 79 rfl (fun k1 => ?_) (fun k1 => ?_)
      · (refine Qj rfl rfl rfl ?_; refine Qj rfl rfl rfl ?_; refine Qj rfl rfl rfl ?_; refine QZ rfl rfl rfl rfl ?_; refine Qz rfl rfl rfl ?_; refine Qj rfl rfl rfl ?_; refine Qj rfl rfl rfl ?_; refine Qj rfl rfl rfl ?_; refine Qj rfl rfl rfl ?_; refine QZ rfl rfl rfl rfl ?_; refine Qz rfl rfl rfl ?_; refine Qj rfl rfl rfl ?_; refine Qj rfl rfl rfl ?_; refine Qj rfl rfl rfl ?_; refine Qj rfl rfl rfl ?_; refine QZ rfl rfl rfl rfl ?_; refine Qz rfl rfl rfl ?_; refine Qj rfl rfl rfl ?_; refine Qj rfl rfl rfl ?_; refine Qj rfl rfl rfl ?_; refine Qj rfl rfl rfl ?_; refine QZ rfl rfl rfl rfl ?_; refine Qz rfl rfl rfl ?_; refine Qj rfl rfl rfl ?_; refine Qj rfl rfl rfl ?_; refine Qj rfl rfl rfl ?_; refine Qj rfl rfl rfl ?_; refine QZ rfl rfl rfl rfl ?_; refine QZ rfl rfl rfl rfl ?_; refine Qy rfl rfl rfl ?_; refine Qv (hK _ _ (Qq (Qc rfl (Qw ?_)))); clear hK K; refine Qx (fun K hK => ?_); refine Qy rfl rfl rfl ?_; refine Qv (hK _ _ (Qq (Q0 (Q6 (QV ?_))))); clear hK K)
        refine Q1 [_] rfl (QJ rfl QX) (by rw [show ckE r = 1 from (if_neg n1).trans ((if_neg n2).trans ((if_neg n3).trans (if_pos (by rw [e4]; exact ⟨rfl, by omega⟩))))]; rfl) rfl
      (refine Qu rfl rfl rfl (by with_reducible first | exact fS0 | exact fS1 | exact fS2 | exact fS3 | exact fS4 | exact fS5 | exact fS6 | exact fS7 | exact fS8 | exact fS9 | exact fS10 | exact fS11 | exact fN0 | exact fN1 | exact fN2 | exact fN3 | exact fN4 | exact fN5) rfl ?_; refine QQ rfl rfl rfl rfl rfl (by with_reducible first | exact lInt | exact QU | exact Qi | exact Xx) rfl ?_; refine Qk igtr rfl rfl rfl rfl ?_; refine Q2 rfl rfl rfl rfl ?_; refine Qz rfl rfl rfl ?_)
      refine Q8 84 rfl (fun k2 => ?_) (fun k2 => ?_)
      · (refine Qj rfl rfl rfl ?_; refine Qj rfl rfl rfl ?_; refine Qj rfl rfl rfl ?_; refine Qj rfl rfl rfl ?_; refine QZ rfl rfl rfl rfl ?_; refine Qz rfl rfl rfl ?_; refine Qj rfl rfl rfl ?_; refine Qj rfl rfl rfl ?_; refine Qj rfl rfl rfl ?_; refine Qj rfl rfl rfl ?_; refine QZ rfl rfl rfl rfl ?_; refine Qz rfl rfl rfl ?_; refine Qj rfl rfl rfl ?_; refine Qj rfl rfl rfl ?_; refine Qj rfl rfl rfl ?_; refine Qj rfl rfl rfl ?_; refine QZ rfl rfl rfl rfl ?_; refine Qz rfl rfl rfl ?_; refine Qj rfl rfl rfl ?_; refine Qj rfl rfl rfl ?_; refine Qj rfl rfl rfl ?_; refine Qj rfl rfl rfl ?_; refine QZ rfl rfl rfl rfl ?_; refine QZ rfl rfl rfl rfl ?_; refine Qy rfl rfl rfl ?_; refine Qv (hK _ _ (Qq (Qc rfl (Qw ?_)))); clear hK K; refine Qx (fun K hK => ?_); refine Qy rfl rfl rfl ?_; refine Qv (hK _ _ (Qq (Q0 (Q6 (QV ?_))))); clear hK K)
        refine Q1 [_] rfl (QJ rfl QX) (by rw [show ckE r = 1 from (if_neg n1).trans ((if_neg n2).trans ((if_neg n3).trans (if_pos (by rw [e4]; exact ⟨rfl, by omega⟩))))]; rfl) rfl
      (refine Qu rfl rfl rfl (by with_reducible first | exact fS0 | exact fS1 | exact fS2 | exact fS3 | exact fS4 | exact fS5 | exact fS6 | exact fS7 | exact fS8 | exact fS9 | exact fS10 | exact fS11 | exact fN0 | exact fN1 | exact fN2 | exact fN3 | exact fN4 | exact fN5) rfl ?_; refine QQ rfl rfl rfl rfl rfl (by with_reducible first | exact lInt | exact QU | exact Qi | exact Xx) rfl ?_)
      refine Q3 ZQ (Zq r.co 255) rfl rfl rfl rfl ?_
      refine Q8 87 rfl (fun k3 => ?_) (fun k3 => ?_)
      rotate_left
      · (refine Qb rfl rfl rfl ?_; refine Q2 rfl rfl rfl rfl ?_; refine Qz rfl rfl rfl ?_; refine Qj rfl rfl rfl ?_; refine Qj rfl rfl rfl ?_; refine Qj rfl rfl rfl ?_; refine Qj rfl rfl rfl ?_; refine QZ rfl rfl rfl rfl ?_; refine Qz rfl rfl rfl ?_; refine Qj rfl rfl rfl ?_; refine Qj rfl rfl rfl ?_; refine Qj rfl rfl rfl ?_; refine Qj rfl rfl rfl ?_; refine QZ rfl rfl rfl rfl ?_; refine Qz rfl rfl rfl ?_; refine Qj rfl rfl rfl ?_; refine Qj rfl rfl rfl ?_; refine Qj rfl rfl rfl ?_; refine Qj rfl rfl rfl ?_; refine QZ rfl rfl rfl rfl ?_; refine QZ rfl rfl rfl rfl ?_; refine Qy rfl rfl rfl ?_; refine Qv (hK _ _ (Qq (Qc rfl (Qw ?_)))); clear hK K; refine Qx (fun K hK => ?_); refine Qy rfl rfl rfl ?_; refine Qv (hK _ _ (Qq (Q0 (Q6 (QV ?_))))); clear hK K)
        refine Q1 [_] rfl (QJ rfl QX) (by rw [show ckE r = 1 from (if_neg n1).trans ((if_neg n2).trans ((if_neg n3).trans (if_pos (by rw [e4]; exact ⟨rfl, by omega⟩))))]; rfl) rfl
      (refine Qb rfl rfl rfl ?_; refine Q2 rfl rfl rfl rfl ?_; refine Qz rfl rfl rfl ?_; refine Qu rfl rfl rfl (by with_reducible first | exact fS0 | exact fS1 | exact fS2 | exact fS3 | exact fS4 | exact fS5 | exact fS6 | exact fS7 | exact fS8 | exact fS9 | exact fS10 | exact fS11 | exact fN0 | exact fN1 | exact fN2 | exact fN3 | exact fN4 | exact fN5) rfl ?_; refine QQ rfl rfl rfl rfl rfl (by with_reducible first | exact lInt | exact QU | exact Qi | exact Xx) rfl ?_)
      refine Q3 ZQ (Zq r.le 255) rfl rfl rfl rfl ?_
      refine Q8 93 rfl (fun k4 => ?_) (fun k4 => ?_)
      rotate_left
      · (refine Qb rfl rfl rfl ?_; refine Q2 rfl rfl rfl rfl ?_; refine Qz rfl rfl rfl ?_; refine Qj rfl rfl rfl ?_; refine Qj rfl rfl rfl ?_; refine Qj rfl rfl rfl ?_; refine Qj rfl rfl rfl ?_; refine QZ rfl rfl rfl rfl ?_; refine Qz rfl rfl rfl ?_; refine Qj rfl rfl rfl ?_; refine Qj rfl rfl rfl ?_; refine Qj rfl rfl rfl ?_; refine Qj rfl rfl rfl ?_; refine QZ rfl rfl rfl rfl ?_; refine QZ rfl rfl rfl rfl ?_; refine Qy rfl rfl rfl ?_; refine Qv (hK _ _ (Qq (Qc rfl (Qw ?_)))); clear hK K; refine Qx (fun K hK => ?_); refine Qy rfl rfl rfl ?_; refine Qv (hK _ _ (Qq (Q0 (Q6 (QV ?_))))); clear hK K)
        refine Q1 [_] rfl (QJ rfl QX) (by rw [show ckE r = 1 from (if_neg n1).trans ((if_neg n2).trans ((if_neg n3).trans (if_pos (by rw [e4]; exact ⟨rfl, by omega⟩))))]; rfl) rfl
      (refine Qb rfl rfl rfl ?_; refine Q2 rfl rfl rfl rfl ?_; refine Qz rfl rfl rfl ?_; refine Qu rfl rfl rfl (by with_reducible first | exact fS0 | exact fS1 | exact fS2 | exact fS3 | exact fS4 | exact fS5 | exact fS6 | exact fS7 | exact fS8 | exact fS9 | exact fS10 | exact fS11 | exact fN0 | exact fN1 | exact fN2 | exact fN3 | exact fN4 | exact fN5) rfl ?_; refine QQ rfl rfl rfl rfl rfl (by with_reducible first | exact lInt | exact QU | exact Qi | exact Xx) rfl ?_)
      refine Q3 ZQ (Zq r.qu 255) rfl rfl rfl rfl ?_
      refine Q8 99 rfl (fun k5 => ?_) (fun k5 => ?_)
      rotate_left
      · (refine Qb rfl rfl rfl ?_; refine Q2 rfl rfl rfl rfl ?_; refine Qz rfl rfl rfl ?_; refine Qj rfl rfl rfl ?_; refine Qj rfl rfl rfl ?_; refine Qj rfl rfl rfl ?_; refine Qj rfl rfl rfl ?_; refine QZ rfl rfl rfl rfl ?_; refine QZ rfl rfl rfl rfl ?_; refine Qy rfl rfl rfl ?_; refine Qv (hK _ _ (Qq (Qc rfl (Qw ?_)))); clear hK K; refine Qx (fun K hK => ?_); refine Qy rfl rfl rfl ?_; refine Qv (hK _ _ (Qq (Q0 (Q6 (QV ?_))))); clear hK K)
        refine Q1 [_] rfl (QJ rfl QX) (by rw [show ckE r = 1 from (if_neg n1).trans ((if_neg n2).trans ((if_neg n3).trans (if_pos (by rw [e4]; exact ⟨rfl, by omega⟩))))]; rfl) rfl
      (refine Qb rfl rfl rfl ?_; refine Q2 rfl rfl rfl rfl ?_; refine Qz rfl rfl rfl ?_; refine Qu rfl rfl rfl (by with_reducible first | exact fS0 | exact fS1 | exact fS2 | exact fS3 | exact fS4 | exact fS5 | exact fS6 | exact fS7 | exact fS8 | exact fS9 | exact fS10 | exact fS11 | exact fN0 | exact fN1 | exact fN2 | exact fN3 | exact fN4 | exact fN5) rfl ?_; refine QQ rfl rfl rfl rfl rfl (by with_reducible first | exact lInt | exact QU | exact Qi | exact Xx) rfl ?_)
      refine Q3 ZQ (Zq r.id 65535) rfl rfl rfl rfl ?_
      refine Q8 105 rfl (fun k6 => ?_) (fun k6 => ?_)
      rotate_left
      · (refine Qb rfl rfl rfl ?_; refine Q2 rfl rfl rfl rfl ?_; refine QZ rfl rfl rfl rfl ?_; refine Qy rfl rfl rfl ?_; refine Qv (hK _ _ (Qq (Qc rfl (Qw ?_)))); clear hK K; refine Qx (fun K hK => ?_); refine Qy rfl rfl rfl ?_; refine Qv (hK _ _ (Qq (Q0 (Q6 (QV ?_))))); clear hK K)
        refine Q1 [_] rfl (QJ rfl QX) (by rw [show ckE r = 1 from (if_neg n1).trans ((if_neg n2).trans ((if_neg n3).trans (if_pos (by rw [e4]; exact ⟨rfl, by omega⟩))))]; rfl) rfl
      have n4 : ¬ P4 r := by rw [e4]; exact fun h => by have := h.2; omega
      (refine Qb rfl rfl rfl ?_; refine Q2 rfl rfl rfl rfl ?_; refine QZ rfl rfl rfl rfl ?_; refine Qy rfl rfl rfl ?_; refine Qv (hK _ _ (Qq (Qe rfl (Q5 (Qq (Qw ?_)))))); clear hK K; refine Qx (fun K hK => ?_); refine Qy rfl rfl rfl ?_; refine Qv (hK _ _ (Qq (Q0 ?_))); clear hK K)
      refine Q1 [_] rfl (QJ rfl QX) (by rw [show ckE r = 0 from (if_neg n1).trans ((if_neg n2).trans ((if_neg n3).trans (if_neg n4)))]; rfl) rfl
set_option maxHeartbeats 4000000 in
theorem rCheckR_ok (r : Rs) : Ok Tryz.prog 80 [rsC r] (intC (ckE r)) := by
  refine Ok.enter Tryz.func80 rfl _ Tryz.ntmps80 rfl ?_
  intro S w
  (refine Qw (Qx fun K hK => ?_); refine Qf 0 rfl rfl rfl rfl rfl rfl rfl ?_; refine Qy rfl rfl rfl ?_; refine Qv (hK _ _ (Qq (Qw (Qw ?_)))); clear hK K; refine Qx (fun K hK => ?_); refine Qu rfl rfl rfl (by with_reducible first | exact fS0 | exact fS1 | exact fS2 | exact fS3 | exact fS4 | exact fS5 | exact fS6 | exact fS7 | exact fS8 | exact fS9 | exact fS10 | exact fS11 | exact fN0 | exact fN1 | exact fN2 | exact fN3 | exact fN4 | exact fN5) rfl ?_; refine QQ rfl rfl rfl rfl rfl (by with_reducible first | exact lInt | exact QU | exact Qi | exact Xx) rfl ?_; refine Qu rfl rfl rfl (by with_reducible first | exact fS0 | exact fS1 | exact fS2 | exact fS3 | exact fS4 | exact fS5 | exact fS6 | exact fS7 | exact fS8 | exact fS9 | exact fS10 | exact fS11 | exact fN0 | exact fN1 | exact fN2 | exact fN3 | exact fN4 | exact fN5) rfl ?_; refine QQ rfl rfl rfl rfl rfl (by with_reducible first | exact lInt | exact QU | exact Qi | exact Xx) rfl ?_)
  refine Q3 gorident (rident_ok r.va r.ru) rfl rfl rfl rfl ?_
  refine Q8 8 rfl (fun h1 => ?_) (fun h1 => ?_)
  rotate_left
  · (refine Qb rfl rfl rfl ?_; refine Qz rfl rfl rfl ?_; refine Qj rfl rfl rfl ?_; refine Qj rfl rfl rfl ?_; refine Qj rfl rfl rfl ?_; refine QZ rfl rfl rfl rfl ?_; refine Qz rfl rfl rfl ?_; refine Qj rfl rfl rfl ?_; refine Qj rfl rfl rfl ?_; refine Qj rfl rfl rfl ?_; refine QZ rfl rfl rfl rfl ?_; refine Qz rfl rfl rfl ?_; refine Qj rfl rfl rfl ?_; refine Qj rfl rfl rfl ?_; refine Qj rfl rfl rfl ?_; refine QZ rfl rfl rfl rfl ?_; refine Qz rfl rfl rfl ?_; refine Qj rfl rfl rfl ?_; refine Qj rfl rfl rfl ?_; refine Qj rfl rfl rfl ?_; refine QZ rfl rfl rfl rfl ?_; refine Qz rfl rfl rfl ?_; refine Qj rfl rfl rfl ?_; refine Qj rfl rfl rfl ?_; refine Qj rfl rfl rfl ?_; refine Qj rfl rfl rfl ?_; refine Qj rfl rfl rfl ?_; refine QZ rfl rfl rfl rfl ?_; refine Qz rfl rfl rfl ?_; refine Qj rfl rfl rfl ?_; refine Qj rfl rfl rfl ?_; refine Qj rfl rfl rfl ?_; refine QZ rfl rfl rfl rfl ?_; refine Qz rfl rfl rfl ?_; refine Qj rfl rfl rfl ?_; refine Qj rfl rfl rfl ?_; refine Qj rfl rfl rfl ?_; refine QZ rfl rfl rfl rfl ?_; refine Qz rfl rfl rfl ?_; refine Qj rfl rfl rfl ?_; refine Qj rfl rfl rfl ?_; refine Qj rfl rfl rfl ?_; refine QZ rfl rfl rfl rfl ?_; refine Qz rfl rfl rfl ?_; refine Qj rfl rfl rfl ?_; refine Qj rfl rfl rfl ?_; refine Qj rfl rfl rfl ?_; refine QZ rfl rfl rfl rfl ?_; refine Qz rfl rfl rfl ?_; refine Qj rfl rfl rfl ?_; refine Qj rfl rfl rfl ?_; refine Qj rfl rfl rfl ?_; refine QZ rfl rfl rfl rfl ?_; refine Qv (hK _ _ (Qq (Qc rfl (Qw ?_)))); clear hK K; refine Qx (fun K hK => ?_); refine Qy rfl rfl rfl ?_; refine Qv (hK _ _ (Qq (Q0 (QV ?_)))); clear hK K)
    refine Q1 [_] rfl (QJ rfl QX) (by rw [show ckE r = 1 from if_pos (by unfold P1; omega)]; rfl) rfl
  (refine Qb rfl rfl rfl ?_; refine Qz rfl rfl rfl ?_; refine Qu rfl rfl rfl (by with_reducible first | exact fS0 | exact fS1 | exact fS2 | exact fS3 | exact fS4 | exact fS5 | exact fS6 | exact fS7 | exact fS8 | exact fS9 | exact fS10 | exact fS11 | exact fN0 | exact fN1 | exact fN2 | exact fN3 | exact fN4 | exact fN5) rfl ?_; refine QQ rfl rfl rfl rfl rfl (by with_reducible first | exact lInt | exact QU | exact Qi | exact Xx) rfl ?_; refine Qk ilss rfl rfl rfl rfl ?_; refine Q2 rfl rfl rfl rfl ?_; refine Qz rfl rfl rfl ?_)
  refine Q8 15 rfl (fun g0 => ?_) (fun g0 => ?_)
  · (refine Qj rfl rfl rfl ?_; refine Qj rfl rfl rfl ?_; refine Qj rfl rfl rfl ?_; refine QZ rfl rfl rfl rfl ?_; refine Qz rfl rfl rfl ?_; refine Qj rfl rfl rfl ?_; refine Qj rfl rfl rfl ?_; refine Qj rfl rfl rfl ?_; refine QZ rfl rfl rfl rfl ?_; refine Qz rfl rfl rfl ?_; refine Qj rfl rfl rfl ?_; refine Qj rfl rfl rfl ?_; refine Qj rfl rfl rfl ?_; refine QZ rfl rfl rfl rfl ?_; refine Qz rfl rfl rfl ?_; refine Qj rfl rfl rfl ?_; refine Qj rfl rfl rfl ?_; refine Qj rfl rfl rfl ?_; refine Qj rfl rfl rfl ?_; refine Qj rfl rfl rfl ?_; refine QZ rfl rfl rfl rfl ?_; refine Qz rfl rfl rfl ?_; refine Qj rfl rfl rfl ?_; refine Qj rfl rfl rfl ?_; refine Qj rfl rfl rfl ?_; refine QZ rfl rfl rfl rfl ?_; refine Qz rfl rfl rfl ?_; refine Qj rfl rfl rfl ?_; refine Qj rfl rfl rfl ?_; refine Qj rfl rfl rfl ?_; refine QZ rfl rfl rfl rfl ?_; refine Qz rfl rfl rfl ?_; refine Qj rfl rfl rfl ?_; refine Qj rfl rfl rfl ?_; refine Qj rfl rfl rfl ?_; refine QZ rfl rfl rfl rfl ?_; refine Qz rfl rfl rfl ?_; refine Qj rfl rfl rfl ?_; refine Qj rfl rfl rfl ?_; refine Qj rfl rfl rfl ?_; refine QZ rfl rfl rfl rfl ?_; refine Qz rfl rfl rfl ?_; refine Qj rfl rfl rfl ?_; refine Qj rfl rfl rfl ?_; refine Qj rfl rfl rfl ?_; refine QZ rfl rfl rfl rfl ?_; refine Qv (hK _ _ (Qq (Qc rfl (Qw ?_)))); clear hK K; refine Qx (fun K hK => ?_); refine Qy rfl rfl rfl ?_; refine Qv (hK _ _ (Qq (Q0 (QV ?_)))); clear hK K)
    refine Q1 [_] rfl (QJ rfl QX) (by rw [show ckE r = 1 from if_pos (by unfold P1; omega)]; rfl) rfl
  (refine Qu rfl rfl rfl (by with_reducible first | exact fS0 | exact fS1 | exact fS2 | exact fS3 | exact fS4 | exact fS5 | exact fS6 | exact fS7 | exact fS8 | exact fS9 | exact fS10 | exact fS11 | exact fN0 | exact fN1 | exact fN2 | exact fN3 | exact fN4 | exact fN5) rfl ?_; refine QQ rfl rfl rfl rfl rfl (by with_reducible first | exact lInt | exact QU | exact Qi | exact Xx) rfl ?_; refine Qk igeq rfl rfl rfl rfl ?_; refine Q2 rfl rfl rfl rfl ?_; refine Qz rfl rfl rfl ?_)
  refine Q8 20 rfl (fun g1 => ?_) (fun g1 => ?_)
  · (refine Qj rfl rfl rfl ?_; refine Qj rfl rfl rfl ?_; refine Qj rfl rfl rfl ?_; refine QZ rfl rfl rfl rfl ?_; refine Qz rfl rfl rfl ?_; refine Qj rfl rfl rfl ?_; refine Qj rfl rfl rfl ?_; refine Qj rfl rfl rfl ?_; refine QZ rfl rfl rfl rfl ?_; refine Qz rfl rfl rfl ?_; refine Qj rfl rfl rfl ?_; refine Qj rfl rfl rfl ?_; refine Qj rfl rfl rfl ?_; refine Qj rfl rfl rfl ?_; refine Qj rfl rfl rfl ?_; refine QZ rfl rfl rfl rfl ?_; refine Qz rfl rfl rfl ?_; refine Qj rfl rfl rfl ?_; refine Qj rfl rfl rfl ?_; refine Qj rfl rfl rfl ?_; refine QZ rfl rfl rfl rfl ?_; refine Qz rfl rfl rfl ?_; refine Qj rfl rfl rfl ?_; refine Qj rfl rfl rfl ?_; refine Qj rfl rfl rfl ?_; refine QZ rfl rfl rfl rfl ?_; refine Qz rfl rfl rfl ?_; refine Qj rfl rfl rfl ?_; refine Qj rfl rfl rfl ?_; refine Qj rfl rfl rfl ?_; refine QZ rfl rfl rfl rfl ?_; refine Qz rfl rfl rfl ?_; refine Qj rfl rfl rfl ?_; refine Qj rfl rfl rfl ?_; refine Qj rfl rfl rfl ?_; refine QZ rfl rfl rfl rfl ?_; refine Qz rfl rfl rfl ?_; refine Qj rfl rfl rfl ?_; refine Qj rfl rfl rfl ?_; refine Qj rfl rfl rfl ?_; refine QZ rfl rfl rfl rfl ?_; refine Qv (hK _ _ (Qq (Qc rfl (Qw ?_)))); clear hK K; refine Qx (fun K hK => ?_); refine Qy rfl rfl rfl ?_; refine Qv (hK _ _ (Qq (Q0 (QV ?_)))); clear hK K)
    refine Q1 [_] rfl (QJ rfl QX) (by rw [show ckE r = 1 from if_pos (by unfold P1; omega)]; rfl) rfl
  (refine Qu rfl rfl rfl (by with_reducible first | exact fS0 | exact fS1 | exact fS2 | exact fS3 | exact fS4 | exact fS5 | exact fS6 | exact fS7 | exact fS8 | exact fS9 | exact fS10 | exact fS11 | exact fN0 | exact fN1 | exact fN2 | exact fN3 | exact fN4 | exact fN5) rfl ?_; refine QQ rfl rfl rfl rfl rfl (by with_reducible first | exact lInt | exact QU | exact Qi | exact Xx) rfl ?_; refine Qk ilss rfl rfl rfl rfl ?_; refine Q2 rfl rfl rfl rfl ?_; refine Qz rfl rfl rfl ?_)
  refine Q8 25 rfl (fun g2 => ?_) (fun g2 => ?_)
  · (refine Qj rfl rfl rfl ?_; refine Qj rfl rfl rfl ?_; refine Qj rfl rfl rfl ?_; refine QZ rfl rfl rfl rfl ?_; refine Qz rfl rfl rfl ?_; refine Qj rfl rfl rfl ?_; refine Qj rfl rfl rfl ?_; refine Qj rfl rfl rfl ?_; refine Qj rfl rfl rfl ?_; refine Qj rfl rfl rfl ?_; refine QZ rfl rfl rfl rfl ?_; refine Qz rfl rfl rfl ?_; refine Qj rfl rfl rfl ?_; refine Qj rfl rfl rfl ?_; refine Qj rfl rfl rfl ?_; refine QZ rfl rfl rfl rfl ?_; refine Qz rfl rfl rfl ?_; refine Qj rfl rfl rfl ?_; refine Qj rfl rfl rfl ?_; refine Qj rfl rfl rfl ?_; refine QZ rfl rfl rfl rfl ?_; refine Qz rfl rfl rfl ?_; refine Qj rfl rfl rfl ?_; refine Qj rfl rfl rfl ?_; refine Qj rfl rfl rfl ?_; refine QZ rfl rfl rfl rfl ?_; refine Qz rfl rfl rfl ?_; refine Qj rfl rfl rfl ?_; refine Qj rfl rfl rfl ?_; refine Qj rfl rfl rfl ?_; refine QZ rfl rfl rfl rfl ?_; refine Qz rfl rfl rfl ?_; refine Qj rfl rfl rfl ?_; refine Qj rfl rfl rfl ?_; refine Qj rfl rfl rfl ?_; refine QZ rfl rfl rfl rfl ?_; refine Qv (hK _ _ (Qq (Qc rfl (Qw ?_)))); clear hK K; refine Qx (fun K hK => ?_); refine Qy rfl rfl rfl ?_; refine Qv (hK _ _ (Qq (Q0 (QV ?_)))); clear hK K)
    refine Q1 [_] rfl (QJ rfl QX) (by rw [show ckE r = 1 from if_pos (by unfold P1; omega)]; rfl) rfl
  (refine Qu rfl rfl rfl (by with_reducible first | exact fS0 | exact fS1 | exact fS2 | exact fS3 | exact fS4 | exact fS5 | exact fS6 | exact fS7 | exact fS8 | exact fS9 | exact fS10 | exact fS11 | exact fN0 | exact fN1 | exact fN2 | exact fN3 | exact fN4 | exact fN5) rfl ?_; refine QQ rfl rfl rfl rfl rfl (by with_reducible first | exact lInt | exact QU | exact Qi | exact Xx) rfl ?_; refine Qk igtr rfl rfl rfl rfl ?_; refine Q2 rfl rfl rfl rfl ?_; refine Qz rfl rfl rfl ?_)
  refine Q8 30 rfl (fun g3 => ?_) (fun g3 => ?_)
  · (refine Qj rfl rfl rfl ?_; refine Qj rfl rfl rfl ?_; refine Qj rfl rfl rfl ?_; refine Qj rfl rfl rfl ?_; refine Qj rfl rfl rfl ?_; refine QZ rfl rfl rfl rfl ?_; refine Qz rfl rfl rfl ?_; refine Qj rfl rfl rfl ?_; refine Qj rfl rfl rfl ?_; refine Qj rfl rfl rfl ?_; refine QZ rfl rfl rfl rfl ?_; refine Qz rfl rfl rfl ?_; refine Qj rfl rfl rfl ?_; refine Qj rfl rfl rfl ?_; refine Qj rfl rfl rfl ?_; refine QZ rfl rfl rfl rfl ?_; refine Qz rfl rfl rfl ?_; refine Qj rfl rfl rfl ?_; refine Qj rfl rfl rfl ?_; refine Qj rfl rfl rfl ?_; refine QZ rfl rfl rfl rfl ?_; refine Qz rfl rfl rfl ?_; refine Qj rfl rfl rfl ?_; refine Qj rfl rfl rfl ?_; refine Qj rfl rfl rfl ?_; refine QZ rfl rfl rfl rfl ?_; refine Qz rfl rfl rfl ?_; refine Qj rfl rfl rfl ?_; refine Qj rfl rfl rfl ?_; refine Qj rfl rfl rfl ?_; refine QZ rfl rfl rfl rfl ?_; refine Qv (hK _ _ (Qq (Qc rfl (Qw ?_)))); clear hK K; refine Qx (fun K hK => ?_); refine Qy rfl rfl rfl ?_; refine Qv (hK _ _ (Qq (Q0 (QV ?_)))); clear hK K)
    refine Q1 [_] rfl (QJ rfl QX) (by rw [show ckE r = 1 from if_pos (by unfold P1; omega)]; rfl) rfl
  (refine Qu rfl rfl rfl (by with_reducible first | exact fS0 | exact fS1 | exact fS2 | exact fS3 | exact fS4 | exact fS5 | exact fS6 | exact fS7 | exact fS8 | exact fS9 | exact fS10 | exact fS11 | exact fN0 | exact fN1 | exact fN2 | exact fN3 | exact fN4 | exact fN5) rfl ?_; refine QQ rfl rfl rfl rfl rfl (by with_reducible first | exact lInt | exact QU | exact Qi | exact Xx) rfl ?_; refine Qu rfl rfl rfl (by with_reducible first | exact fS0 | exact fS1 | exact fS2 | exact fS3 | exact fS4 | exact fS5 | exact fS6 | exact fS7 | exact fS8 | exact fS9 | exact fS10 | exact fS11 | exact fN0 | exact fN1 | exact fN2 | exact fN3 | exact fN4 | exact fN5) rfl ?_; refine QQ rfl rfl rfl rfl rfl (by with_reducible first | exact lInt | exact QU | exact Qi | exact Xx) rfl ?_; refine Qk ilss rfl rfl rfl rfl ?_; refine Q2 rfl rfl rfl rfl ?_; refine Qz rfl rfl rfl ?_)
  refine Q8 37 rfl (fun g4 => ?_) (fun g4 => ?_)
  · (refine Qj rfl rfl rfl ?_; refine Qj rfl rfl rfl ?_; refine Qj rfl rfl rfl ?_; refine QZ rfl rfl rfl rfl ?_; refine Qz rfl rfl rfl ?_; refine Qj rfl rfl rfl ?_; refine Qj rfl rfl rfl ?_; refine Qj rfl rfl rfl ?_; refine QZ rfl rfl rfl rfl ?_; refine Qz rfl rfl rfl ?_; refine Qj rfl rfl rfl ?_; refine Qj rfl rfl rfl ?_; refine Qj rfl rfl rfl ?_; refine QZ rfl rfl rfl rfl ?_; refine Qz rfl rfl rfl ?_; refine Qj rfl rfl rfl ?_; refine Qj rfl rfl rfl ?_; refine Qj rfl rfl rfl ?_; refine QZ rfl rfl rfl rfl ?_; refine Qz rfl rfl rfl ?_; refine Qj rfl rfl rfl ?_; refine Qj rfl rfl rfl ?_; refine Qj rfl rfl rfl ?_; refine QZ rfl rfl rfl rfl ?_; refine Qv (hK _ _ (Qq (Qc rfl (Qw ?_)))); clear hK K; refine Qx (fun K hK => ?_); refine Qy rfl rfl rfl ?_; refine Qv (hK _ _ (Qq (Q0 (QV ?_)))); clear hK K)
    refine Q1 [_] rfl (QJ rfl QX) (by rw [show ckE r = 1 from if_pos (by unfold P1; omega)]; rfl) rfl
  (refine Qu rfl rfl rfl (by with_reducible first | exact fS0 | exact fS1 | exact fS2 | exact fS3 | exact fS4 | exact fS5 | exact fS6 | exact fS7 | exact fS8 | exact fS9 | exact fS10 | exact fS11 | exact fN0 | exact fN1 | exact fN2 | exact fN3 | exact fN4 | exact fN5) rfl ?_; refine QQ rfl rfl rfl rfl rfl (by with_reducible first | exact lInt | exact QU | exact Qi | exact Xx) rfl ?_; refine Qk igtr rfl rfl rfl rfl ?_; refine Q2 rfl rfl rfl rfl ?_; refine Qz rfl rfl rfl ?_)
  refine Q8 42 rfl (fun g5 => ?_) (fun g5 => ?_)
  · (refine Qj rfl rfl rfl ?_; refine Qj rfl rfl rfl ?_; refine Qj rfl rfl rfl ?_; refine QZ rfl rfl rfl rfl ?_; refine Qz rfl rfl rfl ?_; refine Qj rfl rfl rfl ?_; refine Qj rfl rfl rfl ?_; refine Qj rfl rfl rfl ?_; refine QZ rfl rfl rfl rfl ?_; refine Qz rfl rfl rfl ?_; refine Qj rfl rfl rfl ?_; refine Qj rfl rfl rfl ?_; refine Qj rfl rfl rfl ?_; refine QZ rfl rfl rfl rfl ?_; refine Qz rfl rfl rfl ?_; refine Qj rfl rfl rfl ?_; refine Qj rfl rfl rfl ?_; refine Qj rfl rfl rfl ?_; refine QZ rfl rfl rfl rfl ?_; refine Qv (hK _ _ (Qq (Qc rfl (Qw ?_)))); clear hK K; refine Qx (fun K hK => ?_); refine Qy rfl rfl rfl ?_; refine Qv (hK _ _ (Qq (Q0 (QV ?_)))); clear hK K)
    refine Q1 [_] rfl (QJ rfl QX) (by rw [show ckE r = 1 from if_pos (by unfold P1; omega)]; rfl) rfl
  (refine Qu rfl rfl rfl (by with_reducible first | exact fS0 | exact fS1 | exact fS2 | exact fS3 | exact fS4 | exact fS5 | exact fS6 | exact fS7 | exact fS8 | exact fS9 | exact fS10 | exact fS11 | exact fN0 | exact fN1 | exact fN2 | exact fN3 | exact fN4 | exact fN5) rfl ?_; refine QQ rfl rfl rfl rfl rfl (by with_reducible first | exact lInt | exact QU | exact Qi | exact Xx) rfl ?_; refine Qk ilss rfl rfl rfl rfl ?_; refine Q2 rfl rfl rfl rfl ?_; refine Qz rfl rfl rfl ?_)
  refine Q8 47 rfl (fun g6 => ?_) (fun g6 => ?_)
  · (refine Qj rfl rfl rfl ?_; refine Qj rfl rfl rfl ?_; refine Qj rfl rfl rfl ?_; refine QZ rfl rfl rfl rfl ?_; refine Qz rfl rfl rfl ?_; refine Qj rfl rfl rfl ?_; refine Qj rfl rfl rfl ?_; refine Qj rfl rfl rfl ?_; refine QZ rfl rfl rfl rfl ?_; refine Qz rfl rfl rfl ?_; refine Qj rfl rfl rfl ?_; refine Qj rfl rfl rfl ?_; refine Qj rfl rfl rfl ?_; refine QZ rfl rfl rfl rfl ?_; refine Qv (hK _ _ (Qq (Qc rfl (Qw ?_)))); clear hK K; refine Qx (fun K hK => ?_); refine Qy rfl rfl rfl ?_; refine Qv (hK _ _ (Qq (Q0 (QV ?_)))); clear hK K)
    refine Q1 [_] rfl (QJ rfl QX) (by rw [show ckE r = 1 from if_pos (by unfold P1; omega)]; rfl) rfl
  (refine Qu rfl rfl rfl (by with_reducible first | exact fS0 | exact fS1 | exact fS2 | exact fS3 | exact fS4 | exact fS5 | exact fS6 | exact fS7 | exact fS8 | exact fS9 | exact fS10 | exact fS11 | exact fN0 | exact fN1 | exact fN2 | exact fN3 | exact fN4 | exact fN5) rfl ?_; refine QQ rfl rfl rfl rfl rfl (by with_reducible first | exact lInt | exact QU | exact Qi | exact Xx) rfl ?_; refine Qk igtr rfl rfl rfl rfl ?_; refine Q2 rfl rfl rfl rfl ?_; refine Qz rfl rfl rfl ?_)
  refine Q8 52 rfl (fun g7 => ?_) (fun g7 => ?_)
  · (refine Qj rfl rfl rfl ?_; refine Qj rfl rfl rfl ?_; refine Qj rfl rfl rfl ?_; refine QZ rfl rfl rfl rfl ?_; refine Qz rfl rfl rfl ?_; refine Qj rfl rfl rfl ?_; refine Qj rfl rfl rfl ?_; refine Qj rfl rfl rfl ?_; refine QZ rfl rfl rfl rfl ?_; refine Qv (hK _ _ (Qq (Qc rfl (Qw ?_)))); clear hK K; refine Qx (fun K hK => ?_); refine Qy rfl rfl rfl ?_; refine Qv (hK _ _ (Qq (Q0 (QV ?_)))); clear hK K)
    refine Q1 [_] rfl (QJ rfl QX) (by rw [show ckE r = 1 from if_pos (by unfold P1; omega)]; rfl) rfl
  (refine Qu rfl rfl rfl (by with_reducible first | exact fS0 | exact fS1 | exact fS2 | exact fS3 | exact fS4 | exact fS5 | exact fS6 | exact fS7 | exact fS8 | exact fS9 | exact fS10 | exact fS11 | exact fN0 | exact fN1 | exact fN2 | exact fN3 | exact fN4 | exact fN5) rfl ?_; refine QQ rfl rfl rfl rfl rfl (by with_reducible first | exact lInt | exact QU | exact Qi | exact Xx) rfl ?_; refine Qk ilss rfl rfl rfl rfl ?_; refine Q2 rfl rfl rfl rfl ?_; refine Qz rfl rfl rfl ?_)
  refine Q8 57 rfl (fun g8 => ?_) (fun g8 => ?_)
  · (refine Qj rfl rfl rfl ?_; refine Qj rfl rfl rfl ?_; refine Qj rfl rfl rfl ?_; refine QZ rfl rfl rfl rfl ?_; refine Qv (hK _ _ (Qq (Qc rfl (Qw ?_)))); clear hK K; refine Qx (fun K hK => ?_); refine Qy rfl rfl rfl ?_; refine Qv (hK _ _ (Qq (Q0 (QV ?_)))); clear hK K)
    refine Q1 [_] rfl (QJ rfl QX) (by rw [show ckE r = 1 from if_pos (by unfold P1; omega)]; rfl) rfl
  (refine Qu rfl rfl rfl (by with_reducible first | exact fS0 | exact fS1 | exact fS2 | exact fS3 | exact fS4 | exact fS5 | exact fS6 | exact fS7 | exact fS8 | exact fS9 | exact fS10 | exact fS11 | exact fN0 | exact fN1 | exact fN2 | exact fN3 | exact fN4 | exact fN5) rfl ?_; refine QQ rfl rfl rfl rfl rfl (by with_reducible first | exact lInt | exact QU | exact Qi | exact Xx) rfl ?_; refine Qk igtr rfl rfl rfl rfl ?_; refine Q2 rfl rfl rfl rfl ?_; refine Qv (hK _ _ (Qq ?_)); clear hK K)
  refine Q7 rfl (fun h8 => ?_) (fun h8 => ?_)
  · (refine Qw (Qx fun K hK => ?_); refine Qy rfl rfl rfl ?_; refine Qv (hK _ _ (Qq (Q0 (QV ?_)))); clear hK K)
    refine Q1 [_] rfl (QJ rfl QX) (by rw [show ckE r = 1 from if_pos (by unfold P1; omega)]; rfl) rfl
  have n1 : ¬ P1 r := by unfold P1; omega
  clear h1 h8 g0 g1 g2 g3 g4 g5 g6 g7 g8
  refine Q5 ?_
  refine Qq ?_
  refine Qw ?_
  refine Qw ?_
  refine Ze (α := Bool) (fun b => b = decide (P2 r)) (fun b => [(1, .own 0), (74, .ct (boolC b))]) (fun _ => [(0, .box 77 (rsCs r))]) (fun b hb => ?_) (fun KK hN => ?_)
  rotate_left
  · (refine Qx (fun K hK => ?_); refine Qu rfl rfl rfl (by with_reducible first | exact fS0 | exact fS1 | exact fS2 | exact fS3 | exact fS4 | exact fS5 | exact fS6 | exact fS7 | exact fS8 | exact fS9 | exact fS10 | exact fS11 | exact fN0 | exact fN1 | exact fN2 | exact fN3 | exact fN4 | exact fN5) rfl ?_; refine QQ rfl rfl rfl rfl rfl (by with_reducible first | exact lInt | exact QU | exact Qi | exact Xx) rfl ?_; refine Qk ineq rfl rfl rfl rfl ?_; refine Qz rfl rfl rfl ?_)
    refine Q8 65 rfl (fun h9 => ?_) (fun h9 => ?_)
    · (refine Qu rfl rfl rfl (by with_reducible first | exact fS0 | exact fS1 | exact fS2 | exact fS3 | exact fS4 | exact fS5 | exact fS6 | exact fS7 | exact fS8 | exact fS9 | exact fS10 | exact fS11 | exact fN0 | exact fN1 | exact fN2 | exact fN3 | exact fN4 | exact fN5) rfl ?_; refine QQ rfl rfl rfl rfl rfl (by with_reducible first | exact lInt | exact QU | exact Qi | exact Xx) rfl ?_; refine Qk ineq rfl rfl rfl rfl ?_; refine QZ rfl rfl rfl rfl ?_; refine Qz rfl rfl rfl ?_)
      refine Q8 70 rfl (fun h10 => ?_) (fun h10 => ?_)
      · (refine Qu rfl rfl rfl (by with_reducible first | exact fS0 | exact fS1 | exact fS2 | exact fS3 | exact fS4 | exact fS5 | exact fS6 | exact fS7 | exact fS8 | exact fS9 | exact fS10 | exact fS11 | exact fN0 | exact fN1 | exact fN2 | exact fN3 | exact fN4 | exact fN5) rfl ?_; refine QQ rfl rfl rfl rfl rfl (by with_reducible first | exact lInt | exact QU | exact Qi | exact Xx) rfl ?_; refine Qk ineq rfl rfl rfl rfl ?_; refine QZ rfl rfl rfl rfl ?_; refine Qv (hK _ _ ?_); clear hK K)
        exact Xj hN (decide (r.pr ≠ 17)) (decide_eq_decide.2 ⟨fun h => ⟨h9, h10, h⟩, fun h => h.2.2⟩) (by exact QK rfl ⟨rfl, rfl, trivial⟩)
      · (refine Qj rfl rfl rfl ?_; refine Qj rfl rfl rfl ?_; refine Qj rfl rfl rfl ?_; refine Q2 rfl rfl rfl rfl ?_; refine Qv (hK _ _ ?_); clear hK K)
        exact Xj hN false (decide_eq_false (fun h => h10 h.2.1)).symm (by exact QK rfl ⟨rfl, rfl, trivial⟩)
    · (refine Qj rfl rfl rfl ?_; refine Qj rfl rfl rfl ?_; refine Qj rfl rfl rfl ?_; refine Q2 rfl rfl rfl rfl ?_; refine Qz rfl rfl rfl ?_; refine Qj rfl rfl rfl ?_; refine Qj rfl rfl rfl ?_; refine Qj rfl rfl rfl ?_; refine Q2 rfl rfl rfl rfl ?_; refine Qv (hK _ _ ?_); clear hK K)
      exact Xj hN false (decide_eq_false (fun h => h9 h.1)).symm (by exact QK rfl ⟨rfl, rfl, trivial⟩)
  subst hb
  skip
  refine X5 rfl (fun h9 => ?_) (fun h9 => ?_)
  · (refine Qw (Qx fun K hK => ?_); refine Qy rfl rfl rfl ?_; refine Qv (hK _ _ (Qq (Q0 (QV ?_)))); clear hK K)
    refine Q1 [_] rfl (QJ rfl QX) (by rw [show ckE r = 16 from (if_neg n1).trans (if_pos (of_decide_eq_true h9))]; rfl) rfl
  have n2 : ¬ P2 r := of_decide_eq_false h9
  (refine Q5 (Qq (Qw (Qx fun K hK => ?_))); refine Qu rfl rfl rfl (by with_reducible first | exact fS0 | exact fS1 | exact fS2 | exact fS3 | exact fS4 | exact fS5 | exact fS6 | exact fS7 | exact fS8 | exact fS9 | exact fS10 | exact fS11 | exact fN0 | exact fN1 | exact fN2 | exact fN3 | exact fN4 | exact fN5) rfl ?_)
  refine Zn (n := 6) rfl rfl rfl rfl (Nat.le_of_ble_eq_true rfl) (by with_reducible exact lAns) rfl ?_
  refine Qo 1 rfl rfl (by with_reducible exact zvAns) rfl rfl rfl ?_
  refine Qr 6 rfl rfl rfl rfl rfl (by with_reducible exact szAns) rfl rfl ?_
  have hbx : rsCs r = [intC r.va, intC r.ru, intC r.nu, intC r.tm, adrC r.dst.val, intC r.pr, intC r.fl, intC r.tt, boolC r.an, boolC r.db, intC r.bk, adrC r.fr.val, intC r.ki, intC r.co, intC r.le, intC r.id, intC r.qu] := rfl
  rw [hbx]
  clear hbx h9
  have e3 : P3 r = (r.an = false ∧ (r.db = true ∨ anI r ≠ [0, 0, 0, 0, 0, 0])) := rfl
  have e4 : P4 r = (r.an = true ∧ (r.ki < 1 ∨ 5 < r.ki ∨ r.co < 0 ∨ 255 < r.co ∨ r.le < 0 ∨ 255 < r.le ∨ r.qu < 0 ∨ 255 < r.qu ∨ r.id < 0 ∨ 65535 < r.id)) := rfl
  generalize han : r.an = an at e3 e4 ⊢
  generalize hdb : r.db = db at e3 ⊢
  cases an with
  | false =>
    cases db with
    | true =>
      (refine Qv (hK _ _ (Qq (Qw (Qw ?_)))); clear hK K; refine Qx (fun K hK => ?_); refine Qu rfl rfl rfl (by with_reducible first | exact fS0 | exact fS1 | exact fS2 | exact fS3 | exact fS4 | exact fS5 | exact fS6 | exact fS7 | exact fS8 | exact fS9 | exact fS10 | exact fS11 | exact fN0 | exact fN1 | exact fN2 | exact fN3 | exact fN4 | exact fN5) rfl ?_; refine QQ rfl rfl rfl rfl rfl (by with_reducible first | exact lInt | exact QU | exact Qi | exact Xx) rfl ?_; refine Qb rfl rfl rfl ?_; refine Qz rfl rfl rfl ?_; refine Qu rfl rfl rfl (by with_reducible first | exact fS0 | exact fS1 | exact fS2 | exact fS3 | exact fS4 | exact fS5 | exact fS6 | exact fS7 | exact fS8 | exact fS9 | exact fS10 | exact fS11 | exact fN0 | exact fN1 | exact fN2 | exact fN3 | exact fN4 | exact fN5) rfl ?_; refine QQ rfl rfl rfl rfl rfl (by with_reducible first | exact lInt | exact QU | exact Qi | exact Xx) rfl ?_; refine Qz rfl rfl rfl ?_; refine Qj rfl rfl rfl ?_; refine Qj rfl rfl rfl ?_; refine Qj rfl rfl rfl ?_; refine QZ rfl rfl rfl rfl ?_; refine QZ rfl rfl rfl rfl ?_; refine Qv (hK _ _ (Qq (Qc rfl (Qw ?_)))); clear hK K; refine Qx (fun K hK => ?_); refine Qy rfl rfl rfl ?_; refine Qv (hK _ _ (Qq (Q0 (QV ?_)))); clear hK K)
      refine Q1 [_] rfl (QJ rfl QX) (by rw [show ckE r = 7 from (if_neg n1).trans ((if_neg n2).trans (if_pos (by rw [e3]; exact ⟨rfl, .inl rfl⟩)))]; rfl) rfl
    | false =>
      (refine Qv (hK _ _ (Qq (Qw (Qw ?_)))); clear hK K; refine Qx (fun K hK => ?_); refine Qu rfl rfl rfl (by with_reducible first | exact fS0 | exact fS1 | exact fS2 | exact fS3 | exact fS4 | exact fS5 | exact fS6 | exact fS7 | exact fS8 | exact fS9 | exact fS10 | exact fS11 | exact fN0 | exact fN1 | exact fN2 | exact fN3 | exact fN4 | exact fN5) rfl ?_; refine QQ rfl rfl rfl rfl rfl (by with_reducible first | exact lInt | exact QU | exact Qi | exact Xx) rfl ?_; refine Qb rfl rfl rfl ?_; refine Qz rfl rfl rfl ?_; refine Qu rfl rfl rfl (by with_reducible first | exact fS0 | exact fS1 | exact fS2 | exact fS3 | exact fS4 | exact fS5 | exact fS6 | exact fS7 | exact fS8 | exact fS9 | exact fS10 | exact fS11 | exact fN0 | exact fN1 | exact fN2 | exact fN3 | exact fN4 | exact fN5) rfl ?_; refine QQ rfl rfl rfl rfl rfl (by with_reducible first | exact lInt | exact QU | exact Qi | exact Xx) rfl ?_; refine Qz rfl rfl rfl ?_)
      refine Qm (n := 6) rfl rfl rfl rfl rfl (by with_reducible exact lAns) rfl ?_
      refine Xq rfl (by with_reducible exact bAns) rfl .nil rfl ?_
      refine Ops.neS (ks := [.u32, .i64, .i64, .i64, .i64, .i64]) (anI r) [0, 0, 0, 0, 0, 0] rfl rfl rfl rfl rfl (by with_reducible exact eAns) rfl ?_
      (refine Q2 rfl rfl rfl rfl ?_; refine QZ rfl rfl rfl rfl ?_; refine Qv (hK _ _ (Qq ?_)); clear hK K)
      refine X5 rfl (fun k0 => ?_) (fun k0 => ?_)
      · (refine Qw (Qx fun K hK => ?_); refine Qy rfl rfl rfl ?_; refine Qv (hK _ _ (Qq (Q0 (QV ?_)))); clear hK K)
        refine Q1 [_] rfl (QJ rfl QX) (by rw [show ckE r = 7 from (if_neg n1).trans ((if_neg n2).trans (if_pos (by rw [e3]; exact ⟨rfl, .inr (of_decide_eq_false (by simpa using k0))⟩)))]; rfl) rfl
      · have n3 : ¬ P3 r := by rw [e3]; exact fun h => h.2.elim (fun h => by cases h) (fun h => h (by simpa using k0))
        have n4 : ¬ P4 r := by rw [e4]; exact fun h => by cases h.1
        (refine Q5 (Qq (Qw (Qw (Qx fun K hK => ?_)))); refine Qu rfl rfl rfl (by with_reducible first | exact fS0 | exact fS1 | exact fS2 | exact fS3 | exact fS4 | exact fS5 | exact fS6 | exact fS7 | exact fS8 | exact fS9 | exact fS10 | exact fS11 | exact fN0 | exact fN1 | exact fN2 | exact fN3 | exact fN4 | exact fN5) rfl ?_; refine QQ rfl rfl rfl rfl rfl (by with_reducible first | exact lInt | exact QU | exact Qi | exact Xx) rfl ?_; refine Qz rfl rfl rfl ?_; refine Qj rfl rfl rfl ?_; refine Qj rfl rfl rfl ?_; refine Qj rfl rfl rfl ?_; refine Qj rfl rfl rfl ?_; refine Qj rfl rfl rfl ?_; refine Qj rfl rfl rfl ?_; refine Qj rfl rfl rfl ?_; refine Qj rfl rfl rfl ?_; refine Qj rfl rfl rfl ?_; refine Qj rfl rfl rfl ?_; refine Qj rfl rfl rfl ?_; refine Qj rfl rfl rfl ?_; refine Qj rfl rfl rfl ?_; refine Qj rfl rfl rfl ?_; refine Qj rfl rfl rfl ?_; refine Qj rfl rfl rfl ?_; refine Qj rfl rfl rfl ?_; refine Qj rfl rfl rfl ?_; refine Qj rfl rfl rfl ?_; refine Qj rfl rfl rfl ?_; refine Qj rfl rfl rfl ?_; refine Qj rfl rfl rfl ?_; refine Qj rfl rfl rfl ?_; refine Qj rfl rfl rfl ?_; refine Qj rfl rfl rfl ?_; refine Qj rfl rfl rfl ?_; refine Qj rfl rfl rfl ?_; refine Qj rfl rfl rfl ?_; refine Qj rfl rfl rfl ?_; refine Qj rfl rfl rfl ?_; refine Qj rfl rfl rfl ?_; refine Qj rfl rfl rfl ?_; refine Qj rfl rfl rfl ?_; refine Qj rfl rfl rfl ?_; refine Qj rfl rfl rfl ?_; refine Qj rfl rfl rfl ?_; refine Q2 rfl rfl rfl rfl ?_; refine Qv (hK _ _ (Qq (Qe rfl (Q5 (Qq (Qw ?_)))))); clear hK K; refine Qx (fun K hK => ?_); refine Qy rfl rfl rfl ?_; refine Qv (hK _ _ (Qq (Q0 ?_))); clear hK K)
        refine Q1 [_] rfl (QJ rfl QX) (by rw [show ckE r = 0 from (if_neg n1).trans ((if_neg n2).trans ((if_neg n3).trans (if_neg n4)))]; rfl) rfl
  | true =>
    have n3 : ¬ P3 r := by rw [e3]; exact fun h => by cases h.1
    (refine Qv (hK _ _ (Qq (Qw (Qw ?_)))); clear hK K; refine Qx (fun K hK => ?_); refine Qu rfl rfl rfl (by with_reducible first | exact fS0 | exact fS1 | exact fS2 | exact fS3 | exact fS4 | exact fS5 | exact fS6 | exact fS7 | exact fS8 | exact fS9 | exact fS10 | exact fS11 | exact fN0 | exact fN1 | exact fN2 | exact fN3 | exact fN4 | exact fN5) rfl ?_; refine QQ rfl rfl rfl rfl rfl (by with_reducible first | exact lInt | exact QU | exact Qi | exact Xx) rfl ?_; refine Qb rfl rfl rfl ?_; refine Qz rfl rfl rfl ?_; refine Qj rfl rfl rfl ?_; refine Qj rfl rfl rfl ?_; refine Qj rfl rfl rfl ?_; refine Qj rfl rfl rfl ?_; refine Qj rfl rfl rfl ?_; refine Qj rfl rfl rfl ?_; refine Qj rfl rfl rfl ?_; refine Q2 rfl rfl rfl rfl ?_; refine Qv (hK _ _ (Qq (Qe rfl (Q5 (Qq (Qw (Qw ?_))))))); clear hK K; refine Qx (fun K hK => ?_); refine Qu rfl rfl rfl (by with_reducible first | exact fS0 | exact fS1 | exact fS2 | exact fS3 | exact fS4 | exact fS5 | exact fS6 | exact fS7 | exact fS8 | exact fS9 | exact fS10 | exact fS11 | exact fN0 | exact fN1 | exact fN2 | exact fN3 | exact fN4 | exact fN5) rfl ?_; refine QQ rfl rfl rfl rfl rfl (by with_reducible first | exact lInt | exact QU | exact Qi | exact Xx) rfl ?_; refine Qz rfl rfl rfl ?_; refine Qu rfl rfl rfl (by with_reducible first | exact fS0 | exact fS1 | exact fS2 | exact fS3 | exact fS4 | exact fS5 | exact fS6 | exact fS7 | exact fS8 | exact fS9 | exact fS10 | exact fS11 | exact fN0 | exact fN1 | exact fN2 | exact fN3 | exact fN4 | exact fN5) rfl ?_; refine QQ rfl rfl rfl rfl rfl (by with_reducible first | exact lInt | exact QU | exact Qi | exact Xx) rfl ?_; refine Qk ilss rfl rfl rfl rfl ?_; refine Qz rfl rfl rfl ?_)
    refine Q8 95 rfl (fun k1 => ?_) (fun k1 => ?_)
    · (refine Qj rfl rfl rfl ?_; refine Qj rfl rfl rfl ?_; refine Qj rfl rfl rfl ?_; refine QZ rfl rfl rfl rfl ?_; refine Qz rfl rfl rfl ?_; refine Qj rfl rfl rfl ?_; refine Qj rfl rfl rfl ?_; refine Qj rfl rfl rfl ?_; refine Qj rfl rfl rfl ?_; refine QZ rfl rfl rfl rfl ?_; refine Qz rfl rfl rfl ?_; refine Qj rfl rfl rfl ?_; refine Qj rfl rfl rfl ?_; refine Qj rfl rfl rfl ?_; refine Qj rfl rfl rfl ?_; refine QZ rfl rfl rfl rfl ?_; refine Qz rfl rfl rfl ?_; refine Qj rfl rfl rfl ?_; refine Qj rfl rfl rfl ?_; refine Qj rfl rfl rfl ?_; refine Qj rfl rfl rfl ?_; refine QZ rfl rfl rfl rfl ?_; refine Qz rfl rfl rfl ?_; refine Qj rfl rfl rfl ?_; refine Qj rfl rfl rfl ?_; refine Qj rfl rfl rfl ?_; refine QZ rfl rfl rfl rfl ?_; refine Qz rfl rfl rfl ?_; refine Qj rfl rfl rfl ?_; refine Qj rfl rfl rfl ?_; refine Qj rfl rfl rfl ?_; refine QZ rfl rfl rfl rfl ?_; refine QZ rfl rfl rfl rfl ?_; refine Qv (hK _ _ (Qq (Qc rfl (Qw ?_)))); clear hK K; refine Qx (fun K hK => ?_); refine Qy rfl rfl rfl ?_; refine Qv (hK _ _ (Qq (Q0 (QV ?_)))); clear hK K)
      refine Q1 [_] rfl (QJ rfl QX) (by rw [show ckE r = 1 from (if_neg n1).trans ((if_neg n2).trans ((if_neg n3).trans (if_pos (by rw [e4]; exact ⟨rfl, by omega⟩))))]; rfl) rfl
    (refine Qu rfl rfl rfl (by with_reducible first | exact fS0 | exact fS1 | exact fS2 | exact fS3 | exact fS4 | exact fS5 | exact fS6 | exact fS7 | exact fS8 | exact fS9 | exact fS10 | exact fS11 | exact fN0 | exact fN1 | exact fN2 | exact fN3 | exact fN4 | exact fN5) rfl ?_; refine QQ rfl rfl rfl rfl rfl (by with_reducible first | exact lInt | exact QU | exact Qi | exact Xx) rfl ?_; refine Qk igtr rfl rfl rfl rfl ?_; refine Q2 rfl rfl rfl rfl ?_; refine Qz rfl rfl rfl ?_)
    refine Q8 100 rfl (fun k2 => ?_) (fun k2 => ?_)
    · (refine Qj rfl rfl rfl ?_; refine Qj rfl rfl rfl ?_; refine Qj rfl rfl rfl ?_; refine Qj rfl rfl rfl ?_; refine QZ rfl rfl rfl rfl ?_; refine Qz rfl rfl rfl ?_; refine Qj rfl rfl rfl ?_; refine Qj rfl rfl rfl ?_; refine Qj rfl rfl rfl ?_; refine Qj rfl rfl rfl ?_; refine QZ rfl rfl rfl rfl ?_; refine Qz rfl rfl rfl ?_; refine Qj rfl rfl rfl ?_; refine Qj rfl rfl rfl ?_; refine Qj rfl rfl rfl ?_; refine Qj rfl rfl rfl ?_; refine QZ rfl rfl rfl rfl ?_; refine Qz rfl rfl rfl ?_; refine Qj rfl rfl rfl ?_; refine Qj rfl rfl rfl ?_; refine Qj rfl rfl rfl ?_; refine QZ rfl rfl rfl rfl ?_; refine Qz rfl rfl rfl ?_; refine Qj rfl rfl rfl ?_; refine Qj rfl rfl rfl ?_; refine Qj rfl rfl rfl ?_; refine QZ rfl rfl rfl rfl ?_; refine QZ rfl rfl rfl rfl ?_; refine Qv (hK _ _ (Qq (Qc rfl (Qw ?_)))); clear hK K; refine Qx (fun K hK => ?_); refine Qy rfl rfl rfl ?_; refine Qv (hK _ _ (Qq (Q0 (QV ?_)))); clear hK K)
      refine Q1 [_] rfl (QJ rfl QX) (by rw [show ckE r = 1 from (if_neg n1).trans ((if_neg n2).trans ((if_neg n3).trans (if_pos (by rw [e4]; exact ⟨rfl, by omega⟩))))]; rfl) rfl
    (refine Qu rfl rfl rfl (by with_reducible first | exact fS0 | exact fS1 | exact fS2 | exact fS3 | exact fS4 | exact fS5 | exact fS6 | exact fS7 | exact fS8 | exact fS9 | exact fS10 | exact fS11 | exact fN0 | exact fN1 | exact fN2 | exact fN3 | exact fN4 | exact fN5) rfl ?_; refine QQ rfl rfl rfl rfl rfl (by with_reducible first | exact lInt | exact QU | exact Qi | exact Xx) rfl ?_)
    refine Q3 gooctet (octet_ok r.co) rfl rfl rfl rfl ?_
    refine Q8 103 rfl (fun k3 => ?_) (fun k3 => ?_)
    rotate_left
    · (refine Qb rfl rfl rfl ?_; refine Q2 rfl rfl rfl rfl ?_; refine Qz rfl rfl rfl ?_; refine Qj rfl rfl rfl ?_; refine Qj rfl rfl rfl ?_; refine Qj rfl rfl rfl ?_; refine Qj rfl rfl rfl ?_; refine QZ rfl rfl rfl rfl ?_; refine Qz rfl rfl rfl ?_; refine Qj rfl rfl rfl ?_; refine Qj rfl rfl rfl ?_; refine Qj rfl rfl rfl ?_; refine Qj rfl rfl rfl ?_; refine QZ rfl rfl rfl rfl ?_; refine Qz rfl rfl rfl ?_; refine Qj rfl rfl rfl ?_; refine Qj rfl rfl rfl ?_; refine Qj rfl rfl rfl ?_; refine QZ rfl rfl rfl rfl ?_; refine Qz rfl rfl rfl ?_; refine Qj rfl rfl rfl ?_; refine Qj rfl rfl rfl ?_; refine Qj rfl rfl rfl ?_; refine QZ rfl rfl rfl rfl ?_; refine QZ rfl rfl rfl rfl ?_; refine Qv (hK _ _ (Qq (Qc rfl (Qw ?_)))); clear hK K; refine Qx (fun K hK => ?_); refine Qy rfl rfl rfl ?_; refine Qv (hK _ _ (Qq (Q0 (QV ?_)))); clear hK K)
      refine Q1 [_] rfl (QJ rfl QX) (by rw [show ckE r = 1 from (if_neg n1).trans ((if_neg n2).trans ((if_neg n3).trans (if_pos (by rw [e4]; exact ⟨rfl, by omega⟩))))]; rfl) rfl
    (refine Qb rfl rfl rfl ?_; refine Q2 rfl rfl rfl rfl ?_; refine Qz rfl rfl rfl ?_; refine Qu rfl rfl rfl (by with_reducible first | exact fS0 | exact fS1 | exact fS2 | exact fS3 | exact fS4 | exact fS5 | exact fS6 | exact fS7 | exact fS8 | exact fS9 | exact fS10 | exact fS11 | exact fN0 | exact fN1 | exact fN2 | exact fN3 | exact fN4 | exact fN5) rfl ?_; refine QQ rfl rfl rfl rfl rfl (by with_reducible first | exact lInt | exact QU | exact Qi | exact Xx) rfl ?_)
    refine Q3 gooctet (octet_ok r.le) rfl rfl rfl rfl ?_
    refine Q8 109 rfl (fun k4 => ?_) (fun k4 => ?_)
    rotate_left
    · (refine Qb rfl rfl rfl ?_; refine Q2 rfl rfl rfl rfl ?_; refine Qz rfl rfl rfl ?_; refine Qj rfl rfl rfl ?_; refine Qj rfl rfl rfl ?_; refine Qj rfl rfl rfl ?_; refine Qj rfl rfl rfl ?_; refine QZ rfl rfl rfl rfl ?_; refine Qz rfl rfl rfl ?_; refine Qj rfl rfl rfl ?_; refine Qj rfl rfl rfl ?_; refine Qj rfl rfl rfl ?_; refine QZ rfl rfl rfl rfl ?_; refine Qz rfl rfl rfl ?_; refine Qj rfl rfl rfl ?_; refine Qj rfl rfl rfl ?_; refine Qj rfl rfl rfl ?_; refine QZ rfl rfl rfl rfl ?_; refine QZ rfl rfl rfl rfl ?_; refine Qv (hK _ _ (Qq (Qc rfl (Qw ?_)))); clear hK K; refine Qx (fun K hK => ?_); refine Qy rfl rfl rfl ?_; refine Qv (hK _ _ (Qq (Q0 (QV ?_)))); clear hK K)
      refine Q1 [_] rfl (QJ rfl QX) (by rw [show ckE r = 1 from (if_neg n1).trans ((if_neg n2).trans ((if_neg n3).trans (if_pos (by rw [e4]; exact ⟨rfl, by omega⟩))))]; rfl) rfl
    (refine Qb rfl rfl rfl ?_; refine Q2 rfl rfl rfl rfl ?_; refine Qz rfl rfl rfl ?_; refine Qu rfl rfl rfl (by with_reducible first | exact fS0 | exact fS1 | exact fS2 | exact fS3 | exact fS4 | exact fS5 | exact fS6 | exact fS7 | exact fS8 | exact fS9 | exact fS10 | exact fS11 | exact fN0 | exact fN1 | exact fN2 | exact fN3 | exact fN4 | exact fN5) rfl ?_; refine QQ rfl rfl rfl rfl rfl (by with_reducible first | exact lInt | exact QU | exact Qi | exact Xx) rfl ?_)
    refine Q3 gooctet (octet_ok r.qu) rfl rfl rfl rfl ?_
    refine Q8 115 rfl (fun k5 => ?_) (fun k5 => ?_)
    rotate_left
    · (refine Qb rfl rfl rfl ?_; refine Q2 rfl rfl rfl rfl ?_; refine Qz rfl rfl rfl ?_; refine Qj rfl rfl rfl ?_; refine Qj rfl rfl rfl ?_; refine Qj rfl rfl rfl ?_; refine QZ rfl rfl rfl rfl ?_; refine Qz rfl rfl rfl ?_; refine Qj rfl rfl rfl ?_; refine Qj rfl rfl rfl ?_; refine Qj rfl rfl rfl ?_; refine QZ rfl rfl rfl rfl ?_; refine QZ rfl rfl rfl rfl ?_; refine Qv (hK _ _ (Qq (Qc rfl (Qw ?_)))); clear hK K; refine Qx (fun K hK => ?_); refine Qy rfl rfl rfl ?_; refine Qv (hK _ _ (Qq (Q0 (QV ?_)))); clear hK K)
      refine Q1 [_] rfl (QJ rfl QX) (by rw [show ckE r = 1 from (if_neg n1).trans ((if_neg n2).trans ((if_neg n3).trans (if_pos (by rw [e4]; exact ⟨rfl, by omega⟩))))]; rfl) rfl
    (refine Qb rfl rfl rfl ?_; refine Q2 rfl rfl rfl rfl ?_; refine Qz rfl rfl rfl ?_; refine Qu rfl rfl rfl (by with_reducible first | exact fS0 | exact fS1 | exact fS2 | exact fS3 | exact fS4 | exact fS5 | exact fS6 | exact fS7 | exact fS8 | exact fS9 | exact fS10 | exact fS11 | exact fN0 | exact fN1 | exact fN2 | exact fN3 | exact fN4 | exact fN5) rfl ?_; refine QQ rfl rfl rfl rfl rfl (by with_reducible first | exact lInt | exact QU | exact Qi | exact Xx) rfl ?_; refine Qk ilss rfl rfl rfl rfl ?_; refine Q2 rfl rfl rfl rfl ?_; refine Qz rfl rfl rfl ?_)
    refine Q8 123 rfl (fun k6 => ?_) (fun k6 => ?_)
    · (refine Qj rfl rfl rfl ?_; refine Qj rfl rfl rfl ?_; refine Qj rfl rfl rfl ?_; refine QZ rfl rfl rfl rfl ?_; refine QZ rfl rfl rfl rfl ?_; refine Qv (hK _ _ (Qq (Qc rfl (Qw ?_)))); clear hK K; refine Qx (fun K hK => ?_); refine Qy rfl rfl rfl ?_; refine Qv (hK _ _ (Qq (Q0 (QV ?_)))); clear hK K)
      refine Q1 [_] rfl (QJ rfl QX) (by rw [show ckE r = 1 from (if_neg n1).trans ((if_neg n2).trans ((if_neg n3).trans (if_pos (by rw [e4]; exact ⟨rfl, by omega⟩))))]; rfl) rfl
    (refine Qu rfl rfl rfl (by with_reducible first | exact fS0 | exact fS1 | exact fS2 | exact fS3 | exact fS4 | exact fS5 | exact fS6 | exact fS7 | exact fS8 | exact fS9 | exact fS10 | exact fS11 | exact fN0 | exact fN1 | exact fN2 | exact fN3 | exact fN4 | exact fN5) rfl ?_; refine QQ rfl rfl rfl rfl rfl (by with_reducible first | exact lInt | exact QU | exact Qi | exact Xx) rfl ?_; refine Qk igtr rfl rfl rfl rfl ?_; refine Q2 rfl rfl rfl rfl ?_; refine QZ rfl rfl rfl rfl ?_; refine Qv (hK _ _ (Qq ?_)); clear hK K)
    refine Q7 rfl (fun k7 => ?_) (fun k7 => ?_)
    · (refine Qw (Qx fun K hK => ?_); refine Qy rfl rfl rfl ?_; refine Qv (hK _ _ (Qq (Q0 (QV ?_)))); clear hK K)
      refine Q1 [_] rfl (QJ rfl QX) (by rw [show ckE r = 1 from (if_neg n1).trans ((if_neg n2).trans ((if_neg n3).trans (if_pos (by rw [e4]; exact ⟨rfl, by omega⟩))))]; rfl) rfl
    have n4 : ¬ P4 r := by rw [e4]; exact fun h => by have := h.2; omega
    (refine Q5 (Qq (Qw (Qx fun K hK => ?_))); refine Qy rfl rfl rfl ?_; refine Qv (hK _ _ (Qq (Q0 ?_))); clear hK K)
    refine Q1 [_] rfl (QJ rfl QX) (by rw [show ckE r = 0 from (if_neg n1).trans ((if_neg n2).trans ((if_neg n3).trans (if_neg n4)))]; rfl) rfl
set_option maxHeartbeats 4000000 in
theorem ValidR_ok (r : Rs) : Ok Tryz.prog 58 [rsC r] (boolC (okR r)) := by
  have e0 : okR r = (decide (ckE r = 0) && (decide (r.dst.val ≠ 0) && (!r.an || decide (r.fr.val ≠ 0)))) := rfl
  have hC := jCheck_ok r
  generalize ckE r = e at e0 hC
  refine Ok.enter Tryz.func58 rfl _ Tryz.ntmps58 rfl ?_
  intro S w
  (refine Qw (Qx fun K hK => ?_); refine Qf 0 rfl rfl rfl rfl rfl rfl rfl ?_; refine Qy rfl rfl rfl ?_; refine Qv (hK _ _ (Qq (Qw ?_))); clear hK K; refine Qx (fun K hK => ?_); refine Qm (n := 17) rfl rfl rfl rfl rfl (by with_reducible exact lRes) rfl ?_)
  refine Q3 gojCheck hC rfl rfl rfl rfl ?_
  (refine Qk ieql rfl rfl rfl rfl ?_; refine Qz rfl rfl rfl ?_)
  refine Q8 6 rfl (fun h => ?_) (fun h => ?_)
  rotate_left
  · (refine Qj rfl rfl rfl ?_; refine Qj rfl rfl rfl ?_; refine Qj rfl rfl rfl ?_; refine Q2 rfl rfl rfl rfl ?_; refine Qz rfl rfl rfl ?_; refine Qj rfl rfl rfl ?_; refine Qj rfl rfl rfl ?_; refine Qj rfl rfl rfl ?_; refine Qj rfl rfl rfl ?_; refine Qj rfl rfl rfl ?_; refine Qj rfl rfl rfl ?_; refine Qj rfl rfl rfl ?_; refine Qj rfl rfl rfl ?_; refine Qj rfl rfl rfl ?_; refine Q2 rfl rfl rfl rfl ?_; refine Qy rfl rfl rfl ?_; refine Qv (hK _ _ (Qq (Q0 ?_))); clear hK K)
    refine Q1 [_] rfl (QJ rfl QX) (by rw [e0, decide_eq_false h]; rfl) rfl
  rw [decide_eq_true h, Bool.true_and] at e0
  (refine Qu rfl rfl rfl (by with_reducible first | exact fS0 | exact fS1 | exact fS2 | exact fS3 | exact fS4 | exact fS5 | exact fS6 | exact fS7 | exact fS8 | exact fS9 | exact fS10 | exact fS11 | exact fN0 | exact fN1 | exact fN2 | exact fN3 | exact fN4 | exact fN5) rfl ?_; refine QQ rfl rfl rfl rfl rfl (by with_reducible first | exact lInt | exact QU | exact Qi | exact Xx) rfl ?_; refine Qk ineq rfl rfl rfl rfl ?_; refine QZ rfl rfl rfl rfl ?_; refine Qz rfl rfl rfl ?_)
  refine Q8 11 rfl (fun h2 => ?_) (fun h2 => ?_)
  rotate_left
  · (refine Qj rfl rfl rfl ?_; refine Qj rfl rfl rfl ?_; refine Qj rfl rfl rfl ?_; refine Qj rfl rfl rfl ?_; refine Qj rfl rfl rfl ?_; refine Qj rfl rfl rfl ?_; refine Qj rfl rfl rfl ?_; refine Qj rfl rfl rfl ?_; refine Qj rfl rfl rfl ?_; refine Q2 rfl rfl rfl rfl ?_; refine Qy rfl rfl rfl ?_; refine Qv (hK _ _ (Qq (Q0 ?_))); clear hK K)
    refine Q1 [_] rfl (QJ rfl QX) (by rw [e0, decide_eq_false (show ¬ r.dst.val ≠ 0 by omega)]; rfl) rfl
  rw [decide_eq_true (show r.dst.val ≠ 0 by omega), Bool.true_and] at e0
  (refine Qu rfl rfl rfl (by with_reducible first | exact fS0 | exact fS1 | exact fS2 | exact fS3 | exact fS4 | exact fS5 | exact fS6 | exact fS7 | exact fS8 | exact fS9 | exact fS10 | exact fS11 | exact fN0 | exact fN1 | exact fN2 | exact fN3 | exact fN4 | exact fN5) rfl ?_; refine QQ rfl rfl rfl rfl rfl (by with_reducible first | exact lInt | exact QU | exact Qi | exact Xx) rfl ?_; refine Qb rfl rfl rfl ?_; refine Qz rfl rfl rfl ?_)
  refine Ops.split 15 rfl (fun h3 => ?_) (fun h3 => ?_)
  · have h3 : r.an = false := by simpa using h3
    (refine Qj rfl rfl rfl ?_; refine Qj rfl rfl rfl ?_; refine Qj rfl rfl rfl ?_; refine Qj rfl rfl rfl ?_; refine QZ rfl rfl rfl rfl ?_; refine QZ rfl rfl rfl rfl ?_; refine Qy rfl rfl rfl ?_; refine Qv (hK _ _ (Qq (Q0 ?_))); clear hK K)
    refine Q1 [_] rfl (QJ rfl QX) (by rw [e0, h3]; rfl) rfl
  · have h3 : r.an = true := by simpa using h3
    (refine Qu rfl rfl rfl (by with_reducible first | exact fS0 | exact fS1 | exact fS2 | exact fS3 | exact fS4 | exact fS5 | exact fS6 | exact fS7 | exact fS8 | exact fS9 | exact fS10 | exact fS11 | exact fN0 | exact fN1 | exact fN2 | exact fN3 | exact fN4 | exact fN5) rfl ?_; refine XV rfl rfl (by with_reducible first | exact fN0 | exact fN1 | exact fN2 | exact fN3 | exact fN4 | exact fN5) rfl ?_; refine QQ rfl rfl rfl rfl rfl (by with_reducible first | exact lInt | exact QU | exact Qi | exact Xx) rfl ?_; refine Qk ineq rfl rfl rfl rfl ?_; refine Q2 rfl rfl rfl rfl ?_; refine QZ rfl rfl rfl rfl ?_; refine Qy rfl rfl rfl ?_; refine Qv (hK _ _ (Qq (Q0 ?_))); clear hK K)
    refine Q1 [_] rfl (QJ rfl QX) (by rw [e0, h3, show decide (r.fr.val ≠ 0) = decide ((r.fr.val : Int) ≠ 0) from decide_eq_decide.2 (by omega)]; rfl) rfl
set_option maxHeartbeats 4000000 in
theorem rValidR_ok (r : Rs) : Ok Tryz.prog 62 [rsC r] (boolC (okR r)) := by
  have e0 : okR r = (decide (ckE r = 0) && (decide (r.dst.val ≠ 0) && (!r.an || decide (r.fr.val ≠ 0)))) := rfl
  have hC := rCheckR_ok r
  generalize ckE r = e at e0 hC
  refine Ok.enter Tryz.func62 rfl _ Tryz.ntmps62 rfl ?_
  intro S w
  (refine Qw (Qx fun K hK => ?_); refine Qf 0 rfl rfl rfl rfl rfl rfl rfl ?_; refine Qy rfl rfl rfl ?_; refine Qv (hK _ _ (Qq (Qw ?_))); clear hK K; refine Qx (fun K hK => ?_); refine Qm (n := 17) rfl rfl rfl rfl rfl (by with_reducible exact lRes) rfl ?_)
  refine Q3 gorCheckR hC rfl rfl rfl rfl ?_
  (refine Qk ieql rfl rfl rfl rfl ?_; refine Qz rfl rfl rfl ?_)
  refine Q8 6 rfl (fun h => ?_) (fun h => ?_)
  rotate_left
  · (refine Qj rfl rfl rfl ?_; refine Qj rfl rfl rfl ?_; refine Qj rfl rfl rfl ?_; refine Q2 rfl rfl rfl rfl ?_; refine Qz rfl rfl rfl ?_; refine Qj rfl rfl rfl ?_; refine Qj rfl rfl rfl ?_; refine Qj rfl rfl rfl ?_; refine Qj rfl rfl rfl ?_; refine Qj rfl rfl rfl ?_; refine Qj rfl rfl rfl ?_; refine Qj rfl rfl rfl ?_; refine Qj rfl rfl rfl ?_; refine Qj rfl rfl rfl ?_; refine Q2 rfl rfl rfl rfl ?_; refine Qy rfl rfl rfl ?_; refine Qv (hK _ _ (Qq (Q0 ?_))); clear hK K)
    refine Q1 [_] rfl (QJ rfl QX) (by rw [e0, decide_eq_false h]; rfl) rfl
  rw [decide_eq_true h, Bool.true_and] at e0
  (refine Qu rfl rfl rfl (by with_reducible first | exact fS0 | exact fS1 | exact fS2 | exact fS3 | exact fS4 | exact fS5 | exact fS6 | exact fS7 | exact fS8 | exact fS9 | exact fS10 | exact fS11 | exact fN0 | exact fN1 | exact fN2 | exact fN3 | exact fN4 | exact fN5) rfl ?_; refine QQ rfl rfl rfl rfl rfl (by with_reducible first | exact lInt | exact QU | exact Qi | exact Xx) rfl ?_; refine Qk ineq rfl rfl rfl rfl ?_; refine QZ rfl rfl rfl rfl ?_; refine Qz rfl rfl rfl ?_)
  refine Q8 11 rfl (fun h2 => ?_) (fun h2 => ?_)
  rotate_left
  · (refine Qj rfl rfl rfl ?_; refine Qj rfl rfl rfl ?_; refine Qj rfl rfl rfl ?_; refine Qj rfl rfl rfl ?_; refine Qj rfl rfl rfl ?_; refine Qj rfl rfl rfl ?_; refine Qj rfl rfl rfl ?_; refine Qj rfl rfl rfl ?_; refine Qj rfl rfl rfl ?_; refine Q2 rfl rfl rfl rfl ?_; refine Qy rfl rfl rfl ?_; refine Qv (hK _ _ (Qq (Q0 ?_))); clear hK K)
    refine Q1 [_] rfl (QJ rfl QX) (by rw [e0, decide_eq_false (show ¬ r.dst.val ≠ 0 by omega)]; rfl) rfl
  rw [decide_eq_true (show r.dst.val ≠ 0 by omega), Bool.true_and] at e0
  (refine Qu rfl rfl rfl (by with_reducible first | exact fS0 | exact fS1 | exact fS2 | exact fS3 | exact fS4 | exact fS5 | exact fS6 | exact fS7 | exact fS8 | exact fS9 | exact fS10 | exact fS11 | exact fN0 | exact fN1 | exact fN2 | exact fN3 | exact fN4 | exact fN5) rfl ?_; refine QQ rfl rfl rfl rfl rfl (by with_reducible first | exact lInt | exact QU | exact Qi | exact Xx) rfl ?_; refine Qb rfl rfl rfl ?_; refine Qz rfl rfl rfl ?_)
  refine Ops.split 15 rfl (fun h3 => ?_) (fun h3 => ?_)
  · have h3 : r.an = false := by simpa using h3
    (refine Qj rfl rfl rfl ?_; refine Qj rfl rfl rfl ?_; refine Qj rfl rfl rfl ?_; refine Qj rfl rfl rfl ?_; refine QZ rfl rfl rfl rfl ?_; refine QZ rfl rfl rfl rfl ?_; refine Qy rfl rfl rfl ?_; refine Qv (hK _ _ (Qq (Q0 ?_))); clear hK K)
    refine Q1 [_] rfl (QJ rfl QX) (by rw [e0, h3]; rfl) rfl
  · have h3 : r.an = true := by simpa using h3
    (refine Qu rfl rfl rfl (by with_reducible first | exact fS0 | exact fS1 | exact fS2 | exact fS3 | exact fS4 | exact fS5 | exact fS6 | exact fS7 | exact fS8 | exact fS9 | exact fS10 | exact fS11 | exact fN0 | exact fN1 | exact fN2 | exact fN3 | exact fN4 | exact fN5) rfl ?_; refine XV rfl rfl (by with_reducible first | exact fN0 | exact fN1 | exact fN2 | exact fN3 | exact fN4 | exact fN5) rfl ?_; refine QQ rfl rfl rfl rfl rfl (by with_reducible first | exact lInt | exact QU | exact Qi | exact Xx) rfl ?_; refine Qk ineq rfl rfl rfl rfl ?_; refine Q2 rfl rfl rfl rfl ?_; refine QZ rfl rfl rfl rfl ?_; refine Qy rfl rfl rfl ?_; refine Qv (hK _ _ (Qq (Q0 ?_))); clear hK K)
    refine Q1 [_] rfl (QJ rfl QX) (by rw [e0, h3, show decide (r.fr.val ≠ 0) = decide ((r.fr.val : Int) ≠ 0) from decide_eq_decide.2 (by omega)]; rfl) rfl
end Go.Proofs.YtcelmhkpcdhneaaGreat
namespace Go.Limbs
variable {α : Type} [DecidableEq α]
def ddF : α → List α → List α
  | _, [] => []
  | a, b :: l => if b = a then ddF a l else b :: ddF b l
def dd : List α → List α
  | [] => []
  | a :: l => a :: ddF a l
theorem ddF_len : ∀ (a : α) (l : List α), (ddF a l).length ≤ l.length
  | _, [] => Nat.le_refl _
  | a, b :: l => by
    unfold ddF
    split
    · exact Nat.le_succ_of_le (ddF_len a l)
    · exact Nat.succ_le_succ (ddF_len b l)
theorem dd_len (l : List α) : (dd l).length ≤ l.length := by
  cases l with
  | nil => exact Nat.le_refl _
  | cons a l => exact Nat.succ_le_succ (ddF_len a l)
theorem ddF_snoc : ∀ (a : α) (l : List α) (b : α), ddF a (l ++ [b]) = if b = (l.getLast?.getD a) then ddF a l else ddF a l ++ [b]
  | a, [], b => by
    by_cases h : b = a <;> simp [ddF, h]
  | a, c :: l, b => by
    have h1 : (c :: l).getLast?.getD a = l.getLast?.getD c := by
      cases l with
      | nil => rfl
      | cons d l =>
        rw [List.getLast?_cons_cons, List.getLast?_cons]; rfl
    rw [h1]
    simp only [List.cons_append, ddF]
    by_cases h : c = a
    · subst h
      rw [if_pos rfl, if_pos rfl, ddF_snoc c l b]
    · rw [if_neg h, if_neg h, ddF_snoc c l b]
      split <;> rfl
theorem dd_snoc {l : List α} {a b : α} (h : l.getLast? = some a) : dd (l ++ [b]) = if b = a then dd l else dd l ++ [b] := by
  cases l with
  | nil => cases h
  | cons c l =>
    have h1 : l.getLast?.getD c = a := by
      cases l with
      | nil => simpa using h
      | cons d l =>
        rw [List.getLast?_cons_cons] at h
        rw [h]; rfl
    show c :: ddF c (l ++ [b]) = _
    rw [ddF_snoc, h1]
    split <;> rfl
omit [DecidableEq α] in
theorem take_last {l : List α} {z : α} {p : Nat} (h0 : 0 < p) (h : p ≤ l.length) : (l.take p).getLast? = some (l.getD (p - 1) z) := by
  rw [List.getLast?_eq_getElem?, List.length_take, Nat.min_eq_left h, List.getElem?_take, if_pos (by omega), List.getElem?_eq_getElem (by omega), List.getD_eq_getElem?_getD, List.getElem?_eq_getElem (by omega)]; rfl
theorem dd_step {l : List α} {z : α} {p : Nat} (h0 : 0 < p) (h : p < l.length) : dd (l.take (p + 1)) = if l.getD p z = l.getD (p - 1) z then dd (l.take p) else dd (l.take p) ++ [l.getD p z] := by
  have e : l.take (p + 1) = l.take p ++ [l.getD p z] := by
    rw [List.take_add_one, List.getElem?_eq_getElem h, List.getD_eq_getElem?_getD, List.getElem?_eq_getElem h]; rfl
  rw [e, dd_snoc (take_last (z := z) h0 (Nat.le_of_lt h))]
theorem dd_small {l : List α} (h : l.length < 2) : dd l = l := by
  match l, h with
  | [], _ => rfl
  | [a], _ => rfl
end Go.Limbs
namespace Go.Own
open Go.RowKit
variable {X : Ctx} {L : AL} {B : BL} {ops : Array Oper} {K : Act → World → Prop} {r : Pl} {k : Kd}
  {x y z : Operand} {d : Nat} {t t2 t' : TypeId} {pos : String} {af : Array Edge} {g : Option (Nat × Bool)}
theorem Yj {el n bytes gb m c q cq : Nat} {zv : Value} {kk : IntKind} {j : Int} {cs : List CT} (e p : Nat) (hg : gd ops L g = some true) (hx : ev L x = some (.ct (.ex (kh gb (p * n) q cq)))) (hi : bget B e = some (.rowx (kh gb 0 m c) el n cs)) (hy : ev L y = some (.ct (.ex (.int kk j)))) (hT : SlcT X.P t el n bytes zv) (h0 : 0 ≤ j) (hj : j < q)
    (hn : Nat.blt d X.n = true) (h : Ops X ops r ((d, .loc e ((p + j.toNat) * n)) :: L) B K) : Ops X ops (.cons ⟨some d, .indexAddr t x y, t', pos, af, g⟩ k r) L B K :=
  XQ (s := .loc e ((p + j.toNat) * n)) hg rfl hn (fun a ρ w hI => by
    have h1 : a.eval x = kh gb (p * n) q cq := hI.evx hx
    have h2 : ρ e = kh gb 0 m c := (hI.ent e _ hi).1.1
    obtain ⟨nf, hi2, hs, _⟩ := hT.inf
    refine ⟨.pointer (some ⟨gb, (p + j.toNat) * n, none⟩), fun w' _ => ?_, gb, by rw [h2]; rfl, rfl⟩
    show (do pure (Next.value (← Instr.indexAt t (a.eval x) (a.eval y))) : Sem Next).run X.P w' = _
    rw [h1, hI.evx hy]
    refine X3 ?_
    rw [run_index hT.und hi2 h0 (by omega), hs, ← Nat.add_mul]) h
theorem St.nameS {c' : Code} {Q : Exit → Act → World → Prop} (dd i m : Nat) {el n : Nat} {cs : List CT} (hd : look L dd = some (.own i)) (hi : bget B i = some (.row el n cs)) (hl : cs.length = m * n) (hm : 0 < m) (hp : 0 < n)
    (h : ∀ gb c, m ≤ c → c ≤ maxLen → St X ((dd, .ct (.ex (kh gb 0 m c))) :: L) (bset B i (.rowx (kh gb 0 m c) el n cs)) c' Q) : St X L B c' Q := Fin.nameS dd i m hd hi hl hm hp h
theorem Is.cutOff {a : Act} {ρ : Nat → Value} {w : World} (hI : Is X L B a ρ w) {i gb m c el n : Nat} {cs : List CT} (q : Nat) (hi : bget B i = some (.rowx (kh gb 0 m c) el n cs)) (hl : cs.length = m * n) (hp : 0 < n) (hq : q ≤ m) :
    Is X (Own.killL i L) (bset B i (.rowx (kh gb 0 q c) el n (cs.take (q * n)))) a (upd ρ i (kh gb 0 q c)) w := by
  obtain ⟨hρ, vs, cur, hc, hlv, hgb, hmc, hcm, hcz, htk⟩ := hI.rowK hi hl hp
  have hjn : q * n ≤ m * n := Nat.mul_le_mul_right _ hq
  have hW := Is.write (i := i) (v := kh gb 0 q c) (e' := .rowx (kh gb 0 q c) el n (cs.take (q * n))) (w' := w) (hI.killL i) hi rfl rfl rfl (Nat.le_refl _) (fun _ _ _ => rfl) (.inl (by rw [hρ]; rfl))
    (fun S' hk => ⟨rfl, q, vs.take (q * n), ⟨by rw [List.length_take, hlv]; omega, .inr ⟨gb, c, cur, rfl, Nat.zero_le _, hgb, by omega, hcm, hcz, by rw [← htk, List.take_take]; congr 1; omega⟩⟩, (hc.take _).mono hk⟩) (.inr (noN_killL i L)) (.inr rfl)
  exact hW.bext (X8 hi)
theorem Ops.cutOff {l : Pl} {gb m c el n : Nat} {cs cs' : List CT} (i q : Nat) (hi : bget B i = some (.rowx (kh gb 0 m c) el n cs)) (hl : cs.length = m * n) (hp : 0 < n) (hq : q ≤ m) (hcs : cs.take (q * n) = cs')
    (h : Ops X ops l (killL i L) (bset B i (.rowx (kh gb 0 q c) el n cs')) K) : Ops X ops l L B K := fun a ρ w hI => by
  subst hcs
  exact h a (upd ρ i (kh gb 0 q c)) w (hI.cutOff q hi hl hp hq)
theorem stEX {α : Type} {n i j el : Nat} {v0 : Value} {l : List α} (f : α → List CT) (c : α) (hf : ∀ a, (f a).length = n) (hg : gd ops L g = some true) (hx : ev L x = some (.loc i (j * n))) (hi : bget B i = some (.rowx v0 el n ((l.map f).flatten))) (hy : ev L y = some (.ct (.fr (aggT (f c))))) (ho : ones (f c) = true) (hj : j < l.length) (hsz : (X.P.info? t).map (·.size) = some n)
    (h : Ops X ops r L (bset B i (.rowx v0 el n (((l.set j c).map f).flatten))) K) : Ops X ops (.cons ⟨none, .store t x y, t', pos, af, g⟩ .any r) L B K :=
  Ops.stNA hg hx hi hy ho (by rw [hsz, hf]) (by show j * n + (f c).length ≤ _; rw [hf]; show _ ≤ (l.map f).flatten.length; rw [el_len hf, ← Nat.succ_mul]; exact Nat.mul_le_mul_right _ hj) (by
    have : (Ent.rowx v0 el n ((l.map f).flatten)).putc (j * n) (f c) = .rowx v0 el n (((l.set j c).map f).flatten) := by rw [← el_put hf c hj]; rfl
    rw [this]; exact h)
end Go.Own
namespace Go.Limbs
theorem row_at {α : Type} (D l : List α) (q : Nat) (z : α) (h : D.length ≤ q) : (D ++ l.drop D.length).getD q z = l.getD q z := by
  rw [List.getD_eq_getElem?_getD, List.getElem?_append_right h, List.getElem?_drop, List.getD_eq_getElem?_getD, show D.length + (q - D.length) = q by omega]
theorem row_set {α : Type} (D l : List α) (x : α) (h : D.length < l.length) : (D ++ l.drop D.length).set D.length x = (D ++ [x]) ++ l.drop (D ++ [x]).length := by
  rw [List.set_append_right _ _ (Nat.le_refl _), Nat.sub_self, List.length_append, List.length_singleton, List.drop_eq_getElem_cons h, List.set_cons_zero, List.append_assoc]; rfl
end Go.Limbs
namespace Go.Proofs.YtcelmhkpcdhneaaGreat
open Go.Own Go.Limbs
attribute [local irreducible] St Ops Go.Own.Fin Ok OkB OkN OkT OkL OkF
theorem rss_take (l : List Rs) (i : Nat) : (rss l).take (i * 17) = rss (l.take i) := el_take Xs l i
theorem cl_len (c : Cl) : (clCs c).length = 7 := rfl
theorem cls_take' (l : List Cl) (i : Nat) : (cls l).take (i * 7) = cls (l.take i) := el_take cl_len l i
section
variable {X : Ctx} {L : AL} {B : BL} {ops : Array Oper} {K : Act → World → Prop} {r : Pl} {k : Kd}
  {x y z : Operand} {d : Nat} {t t2 t' : TypeId} {pos : String} {af : Array Edge} {g : Option (Nat × Bool)}
theorem eqCl (p q : Cl) (hg : gd ops L g = some true) (hx : ev L x = some (.ct (clC p))) (hy : ev L y = some (.ct (clC q))) (hP : X.P = Tryz.prog) (hn : Nat.blt d X.n = true)
    (h : Ops X ops r ((d, .ct (boolC (decide (p = q)))) :: L) B K) : Ops X ops (.cons ⟨some d, .binOp .eql 62 x y t2, t', pos, af, g⟩ k r) L B K :=
  Ops.eqS (ks := clK) (clI p) (clI q) hg hx hy rfl rfl (hP ▸ eClaim) hn (by rw [decide_eq_decide.2 clI_inj]; exact h)
theorem neRs' (p q : Rs) (hg : gd ops L g = some true) (hx : ev L x = some (.ct (rsC p))) (hy : ev L y = some (.ct (rsC q))) (hP : X.P = Tryz.prog) (hn : Nat.blt d X.n = true)
    (h : Ops X ops r ((d, .ct (boolC (decide (¬ p = q)))) :: L) B K) : Ops X ops (.cons ⟨some d, .binOp .neq 77 x y t2, t', pos, af, g⟩ k r) L B K :=
  neRs p q hg hx hy hP hn (by rw [← decide_not]; exact h)
theorem neCl' (p q : Cl) (hg : gd ops L g = some true) (hx : ev L x = some (.ct (clC p))) (hy : ev L y = some (.ct (clC q))) (hP : X.P = Tryz.prog) (hn : Nat.blt d X.n = true)
    (h : Ops X ops r ((d, .ct (boolC (decide (¬ p = q)))) :: L) B K) : Ops X ops (.cons ⟨some d, .binOp .neq 62 x y t2, t', pos, af, g⟩ k r) L B K :=
  Ops.neS (ks := clK) (clI p) (clI q) hg hx hy rfl rfl (hP ▸ eClaim) hn (by rw [decide_eq_decide.2 clI_inj, ← decide_not]; exact h)
end
theorem goCompact_Rs : InGo Tryz.prog 61 := InGo.of Tryz.func61 (by kernel_rfl) (by kernel_rfl)
set_option maxHeartbeats 4000000 in
theorem Compact_Rs_ok (l : List Rs) (hl : l.length ≤ 100000) : OkT Tryz.prog 61 77 17 (rss l) [] (rss (dd l)) := by
  refine OkT.enter Tryz.func61 rfl _ Tryz.ntmps61 rfl ?_
  intro S w h0
  (refine Qw (Qx fun K hK => ?_); refine Qy rfl rfl rfl ?_; refine Qv (hK _ _ (Qq (Qw (Qw ?_)))); clear hK K; refine Qx (fun K hK => ?_); refine Qz rfl rfl rfl ?_)
  refine Zk l.length rfl rfl rfl (by decide) (Xw l) (by with_reducible exact sRes.und) rfl ?_
  (refine Qk ilss rfl rfl rfl rfl ?_; refine Qv (hK _ _ (Qq ?_)); clear hK K)
  refine Q7 rfl (fun h => ?_) (fun h => ?_)
  · rw [dd_small (l := l) (by omega)]
    (refine Qw (Qx fun K hK => ?_); refine Qz rfl rfl rfl ?_; refine Qy rfl rfl rfl ?_; refine Qv (hK _ _ (Qq (Q0 (QV ?_)))); clear hK K)
    refine Z1 rfl rfl rfl
  (refine Q5 (Qq (Qw (Qw (Qx fun K hK => ?_)))); refine Qy rfl rfl rfl ?_; refine Qv (hK _ _ (Qq (Q4 ?_))); clear hK K)
  refine Qt (α := Nat) (fun i => i + 1 ≤ l.length ∧ dd (l.take (i + 1)) = l.take (i + 1))
    (fun i => [(0, .own 0), (3, .ct (intC (i + 1)))]) (fun _ => [(0, .row 77 17 (rss l))]) (fun i => l.length - i) 0 ⟨by omega, dd_small (by rw [List.length_take]; omega)⟩ (by exact QK rfl ⟨rfl, rfl, trivial⟩) ?_
  rintro i ⟨hi, hd⟩
  try dsimp only at hi hd
  try dsimp only
  (refine Qw (Qw (Qx fun K hK => ?_)); refine Qz rfl rfl rfl ?_; refine Qz rfl rfl rfl ?_)
  refine Zk l.length rfl rfl rfl (by decide) (Xw l) (by with_reducible exact sRes.und) rfl ?_
  (refine Qk ilss rfl rfl rfl rfl ?_; refine Qv (hK _ _ (Qq ?_)); clear hK K)
  refine Q7 rfl (fun h => ?_) (fun h => ?_)
  rotate_left
  · have e : dd l = l := by
      have := hd
      rw [List.take_of_length_le (by omega)] at this
      exact this
    rw [e]
    (refine Qh (Qq (Qw (Qx fun K hK => ?_))); refine Qz rfl rfl rfl ?_; refine Qy rfl rfl rfl ?_; refine Qv (hK _ _ (Qq (Q0 ?_))); clear hK K)
    refine Z1 rfl rfl rfl
  (refine Q5 (Qq (Qw (Q4 (Qw ?_)))))
  refine Qp (by with_reducible exact mixed) 10 (.p 0 (.p 1 (.p 2 (.p 4 (.p 5 (.p 6 (.p 7 (.f 3 (.f 8 (.p 9 .done)))))))))) (by kernel_rfl) (fun K hK => ?_)
  (refine Qz rfl rfl rfl ?_; refine Qz rfl rfl rfl ?_)
  refine XY l.length rfl rfl rfl (Xw l) rfl (by with_reducible exact sRes) (by omega) (by omega) rfl ?_
  (refine Qz rfl rfl rfl ?_; refine Qz rfl rfl rfl ?_; refine Qk (isub (by omega) (by omega)) rfl rfl rfl rfl ?_)
  refine XY l.length rfl rfl rfl (Xw l) rfl (by with_reducible exact sRes) (by omega) (by omega) rfl ?_
  skip
  refine ldE rsCs rs0 Xs rfl rfl rfl rfl rfl (by omega) (by with_reducible exact lRes) rfl ?_
  refine ldE rsCs rs0 Xs rfl rfl rfl rfl rfl (by omega) (by with_reducible exact lRes) rfl ?_
  rw [show ((i : Int) + 1).toNat = i + 1 by omega, show ((i : Int) + 1 - 1).toNat = i by omega]
  generalize hx : l.getD i rs0 = x
  generalize hy : l.getD (i + 1) rs0 = y
  refine eqRs y x rfl rfl rfl rfl rfl ?_
  (refine Qv (hK _ _ (Qq ?_)); clear hK K)
  have hs := dd_step (l := l) (z := rs0) (p := i + 1) (by omega) (by omega)
  rw [show i + 1 - 1 = i by omega, hx, hy] at hs
  refine Q7 rfl (fun he => ?_) (fun he => ?_)
  rotate_left
  · (refine Q5 (Qq (Qx fun K hK => ?_)); refine Qz rfl rfl rfl ?_; refine Qk (iadd (by omega) (by omega)) rfl rfl rfl rfl ?_; refine Qy rfl rfl rfl ?_; refine Qv (hK _ _ (Qa ?_)); clear hK K)
    refine Qg (i + 1) (by omega) ⟨by omega, ?_⟩ (by exact QK rfl ⟨rfl, by simp only [Int.natCast_add]; rfl, trivial⟩)
    rw [hs, if_neg he, hd, List.take_add_one (i := i + 1), List.getElem?_eq_getElem (by omega), ← hy, List.getD_eq_getElem?_getD, List.getElem?_eq_getElem (by omega)]; rfl
  rw [if_pos he, hd] at hs
  refine St.nameS 0 0 l.length rfl rfl (Xw l) (by omega) (by decide) (fun gb c hc1 hc2 => ?_)
  (refine Qw (Qx fun K hK => ?_); refine Qz rfl rfl rfl ?_; refine Qz rfl rfl rfl ?_)
  refine Ops.cutKl (i + 1) rfl rfl rfl (by omega) sRes (by omega) rfl ?_
  rw [if_neg (show ¬ c = i + 1 by omega), Nat.zero_add]
  (refine Qy rfl rfl rfl ?_; refine Qv (hK _ _ (Qq (Qw (Qw ?_)))); clear hK K; refine Qx (fun K hK => ?_); refine Qy rfl rfl rfl ?_; refine Qv (hK _ _ (Qq (Q4 ?_))); clear hK K)
  refine Qt (α := Nat) (fun j => i + 2 + j ≤ l.length ∧ (dd (l.take (i + 2 + j))).length < i + 2 + j)
    (fun j => [(0, .ct (.ex (kh gb 0 l.length c))), (3, .ct (intC (dd (l.take (i + 2 + j))).length)), (4, .ct (.ex (kh gb ((i + 1) * 17) (l.length - (i + 1)) (c - (i + 1))))), (5, .ct (intC (j + 1)))])
    (fun j => [(0, .rowx (kh gb 0 l.length c) 77 17 (rss (dd (l.take (i + 2 + j)) ++ l.drop (dd (l.take (i + 2 + j))).length)))]) (fun j => l.length - j) 0
    ⟨by omega, by rw [Nat.add_zero, hs, List.length_take]; omega⟩ (by
      rw [Nat.add_zero, hs, List.length_take, Nat.min_eq_left hi, List.take_append_drop]
      exact QK rfl ⟨rfl, rfl, rfl, rfl, trivial⟩) ?_
  clear hs
  rintro j ⟨hj, hD⟩
  try dsimp only at hj hD
  try dsimp only
  have hs := dd_step (l := l) (z := rs0) (p := i + 2 + j) (by omega)
  generalize hDD : dd (l.take (i + 2 + j)) = D at hs hD ⊢
  have hrl : (D ++ l.drop D.length).length = l.length := by rw [List.length_append, List.length_drop]; omega
  have hat : ∀ q, D.length ≤ q → (D ++ l.drop D.length).getD q rs0 = l.getD q rs0 := fun q hq => row_at D l q rs0 hq
  (refine Qw (Qw (Qx fun K hK => ?_)); refine Qz rfl rfl rfl ?_; refine Qz rfl rfl rfl ?_)
  refine Ops.lenKv rfl rfl sRes.und rfl ?_
  (refine Qk ilss rfl rfl rfl rfl ?_; refine Qv (hK _ _ (Qq ?_)); clear hK K)
  refine Q7 rfl (fun h2 => ?_) (fun h2 => ?_)
  · (refine Q5 (Qq (Qw (Q4 (Qw ?_)))))
    refine Qp (by with_reducible exact mixed) 10 (.p 0 (.p 1 (.p 2 (.p 4 (.p 5 (.p 6 (.p 7 (.f 3 (.f 8 (.p 9 .done)))))))))) (by kernel_rfl) (fun K hK => ?_)
    (refine Qz rfl rfl rfl ?_; refine Qz rfl rfl rfl ?_)
    refine Yj 0 (i + 1) rfl rfl rfl rfl sRes (by omega) (by omega) rfl ?_
    (refine Qz rfl rfl rfl ?_; refine Qz rfl rfl rfl ?_; refine Qk (isub (by omega) (by omega)) rfl rfl rfl rfl ?_)
    refine Yj 0 (i + 1) rfl rfl rfl rfl sRes (by omega) (by omega) rfl ?_
    skip
    refine ldE rsCs rs0 Xs rfl rfl rfl rfl rfl (by omega) (by with_reducible exact lRes) rfl ?_
    refine ldE rsCs rs0 Xs rfl rfl rfl rfl rfl (by omega) (by with_reducible exact lRes) rfl ?_
    rw [show i + 1 + ((j : Int) + 1).toNat = i + 2 + j by omega, show i + 1 + ((j : Int) + 1 - 1).toNat = i + 2 + j - 1 by omega, hat _ (by omega), hat _ (by omega)]
    have hs := hs (by omega)
    generalize hx2 : l.getD (i + 2 + j - 1) rs0 = x2 at hs ⊢
    generalize hy2 : l.getD (i + 2 + j) rs0 = y2 at hs ⊢
    refine neRs' y2 x2 rfl rfl rfl rfl rfl ?_
    (refine Qv (hK _ _ (Qq ?_)); clear hK K)
    refine Q7 rfl (fun he2 => ?_) (fun he2 => ?_)
    · rw [if_neg he2] at hs
      (refine Qw (Qx fun K hK => ?_); refine Qz rfl rfl rfl ?_; refine Qz rfl rfl rfl ?_; refine Qz rfl rfl rfl ?_; refine Qz rfl rfl rfl ?_)
      refine Yj 0 (i + 1) rfl rfl rfl rfl sRes (by omega) (by omega) rfl ?_
      refine ldE rsCs rs0 Xs rfl rfl rfl rfl rfl (by omega) (by with_reducible exact lRes) rfl ?_
      rw [show i + 1 + ((j : Int) + 1).toNat = i + 2 + j by omega, hat _ (by omega), hy2]
      refine Yj 0 0 rfl rfl rfl rfl sRes (by omega) (by omega) rfl ?_
      rw [Nat.zero_add, show ((D.length : Int)).toNat = D.length by omega]
      refine stEX rsCs y2 Xs rfl rfl rfl rfl rfl (by omega) (by with_reducible exact szRes) ?_
      rw [row_set D l y2 (by omega)]
      (refine Qv (hK _ _ (Qq ?_)); clear hK K; refine Qx (fun K hK => ?_); refine Qz rfl rfl rfl ?_; refine Qk (iadd (by omega) (by omega)) rfl rfl rfl rfl ?_; refine Qy rfl rfl rfl ?_; refine Qv (hK _ _ (Qq ?_)); clear hK K; refine Qx (fun K hK => ?_); refine Qz rfl rfl rfl ?_; refine Qk (iadd (by omega) (by omega)) rfl rfl rfl rfl ?_; refine Qy rfl rfl rfl ?_; refine Qv (hK _ _ (Qa ?_)); clear hK K)
      refine Qg (j + 1) (by omega) ⟨by omega, by show (dd (l.take (i + 2 + j + 1))).length < _; rw [hs, List.length_append]; show D.length + 1 < _; omega⟩ ?_
      rw [show i + 2 + (j + 1) = i + 2 + j + 1 by omega, hs, List.length_append]
      exact QK rfl ⟨rfl, by simp only [Int.natCast_add]; rfl, rfl, by simp only [Int.natCast_add]; rfl, trivial⟩
    · rw [if_pos (Decidable.not_not.1 he2)] at hs
      (refine Q5 (Qq (Qx fun K hK => ?_)); refine Qz rfl rfl rfl ?_; refine Qk (iadd (by omega) (by omega)) rfl rfl rfl rfl ?_; refine Qy rfl rfl rfl ?_; refine Qv (hK _ _ (Qa ?_)); clear hK K)
      refine Qg (j + 1) (by omega) ⟨by omega, by show (dd (l.take (i + 2 + j + 1))).length < _; rw [hs]; omega⟩ ?_
      rw [show i + 2 + (j + 1) = i + 2 + j + 1 by omega, hs]
      exact QK rfl ⟨rfl, rfl, rfl, by simp only [Int.natCast_add]; rfl, trivial⟩
  · have e : dd l = D := by rw [← hDD, List.take_of_length_le (by omega)]
    rw [e]
    (refine Qh (Qq (Qw (Qx fun K hK => ?_))); refine Qz rfl rfl rfl ?_; refine Qz rfl rfl rfl ?_)
    refine Ops.cutKl D.length rfl rfl rfl rfl sRes (by omega) rfl ?_
    skip
    refine Ops.cutOff 0 D.length rfl (by show (rss _).length = _; rw [Xw, hrl]) (by decide) (by omega) (by show (rss _).take _ = rss D; rw [rss_take, List.take_left]) ?_
    refine Ops.clearK 0 rfl rfl (by split <;> omega) rfl (Xw D) (by omega) sRes (by decide) ?_
    (refine Qv (hK _ _ (Qq (Qw ?_))); clear hK K; refine Qx (fun K hK => ?_); refine Qz rfl rfl rfl ?_; refine Qz rfl rfl rfl ?_)
    refine Ops.cutKh D.length rfl rfl rfl rfl sRes (by omega) rfl ?_
    (refine Qy rfl rfl rfl ?_; refine Qv (hK _ _ (Qq (Q0 (Q6 (QV (QV (Q6 (QV ?_)))))))); clear hK K)
    refine Fin.link 2 0 rfl rfl ?_
    refine Z1 rfl rfl rfl
theorem goCompact_Cl : InGo Tryz.prog 66 := InGo.of Tryz.func66 (by kernel_rfl) (by kernel_rfl)
set_option maxHeartbeats 4000000 in
theorem Compact_Cl_ok (l : List Cl) (hl : l.length ≤ 100000) : OkT Tryz.prog 66 62 7 (cls l) [] (cls (dd l)) := by
  refine OkT.enter Tryz.func66 rfl _ Tryz.ntmps66 rfl ?_
  intro S w h0
  (refine Qw (Qx fun K hK => ?_); refine Qy rfl rfl rfl ?_; refine Qv (hK _ _ (Qq (Qw (Qw ?_)))); clear hK K; refine Qx (fun K hK => ?_); refine Qz rfl rfl rfl ?_)
  refine Zk l.length rfl rfl rfl (by decide) (XK l) (by with_reducible exact sClaims.und) rfl ?_
  (refine Qk ilss rfl rfl rfl rfl ?_; refine Qv (hK _ _ (Qq ?_)); clear hK K)
  refine Q7 rfl (fun h => ?_) (fun h => ?_)
  · rw [dd_small (l := l) (by omega)]
    (refine Qw (Qx fun K hK => ?_); refine Qz rfl rfl rfl ?_; refine Qy rfl rfl rfl ?_; refine Qv (hK _ _ (Qq (Q0 (QV ?_)))); clear hK K)
    refine Z1 rfl rfl rfl
  (refine Q5 (Qq (Qw (Qw (Qx fun K hK => ?_)))); refine Qy rfl rfl rfl ?_; refine Qv (hK _ _ (Qq (Q4 ?_))); clear hK K)
  refine Qt (α := Nat) (fun i => i + 1 ≤ l.length ∧ dd (l.take (i + 1)) = l.take (i + 1))
    (fun i => [(0, .own 0), (3, .ct (intC (i + 1)))]) (fun _ => [(0, .row 62 7 (cls l))]) (fun i => l.length - i) 0 ⟨by omega, dd_small (by rw [List.length_take]; omega)⟩ (by exact QK rfl ⟨rfl, rfl, trivial⟩) ?_
  rintro i ⟨hi, hd⟩
  try dsimp only at hi hd
  try dsimp only
  (refine Qw (Qw (Qx fun K hK => ?_)); refine Qz rfl rfl rfl ?_; refine Qz rfl rfl rfl ?_)
  refine Zk l.length rfl rfl rfl (by decide) (XK l) (by with_reducible exact sClaims.und) rfl ?_
  (refine Qk ilss rfl rfl rfl rfl ?_; refine Qv (hK _ _ (Qq ?_)); clear hK K)
  refine Q7 rfl (fun h => ?_) (fun h => ?_)
  rotate_left
  · have e : dd l = l := by
      have := hd
      rw [List.take_of_length_le (by omega)] at this
      exact this
    rw [e]
    (refine Qh (Qq (Qw (Qx fun K hK => ?_))); refine Qz rfl rfl rfl ?_; refine Qy rfl rfl rfl ?_; refine Qv (hK _ _ (Qq (Q0 ?_))); clear hK K)
    refine Z1 rfl rfl rfl
  (refine Q5 (Qq (Qw (Q4 (Qw ?_)))))
  refine Qp (by with_reducible exact mixed) 10 (.p 0 (.p 1 (.p 2 (.p 4 (.p 5 (.p 6 (.p 7 (.f 3 (.f 8 (.p 9 .done)))))))))) (by kernel_rfl) (fun K hK => ?_)
  (refine Qz rfl rfl rfl ?_; refine Qz rfl rfl rfl ?_)
  refine XY l.length rfl rfl rfl (XK l) rfl (by with_reducible exact sClaims) (by omega) (by omega) rfl ?_
  (refine Qz rfl rfl rfl ?_; refine Qz rfl rfl rfl ?_; refine Qk (isub (by omega) (by omega)) rfl rfl rfl rfl ?_)
  refine XY l.length rfl rfl rfl (XK l) rfl (by with_reducible exact sClaims) (by omega) (by omega) rfl ?_
  skip
  refine ldE clCs c0 cl_len rfl rfl rfl rfl rfl (by omega) (by with_reducible exact Xz) rfl ?_
  refine ldE clCs c0 cl_len rfl rfl rfl rfl rfl (by omega) (by with_reducible exact Xz) rfl ?_
  rw [show ((i : Int) + 1).toNat = i + 1 by omega, show ((i : Int) + 1 - 1).toNat = i by omega]
  generalize hx : l.getD i c0 = x
  generalize hy : l.getD (i + 1) c0 = y
  refine eqCl y x rfl rfl rfl rfl rfl ?_
  (refine Qv (hK _ _ (Qq ?_)); clear hK K)
  have hs := dd_step (l := l) (z := c0) (p := i + 1) (by omega) (by omega)
  rw [show i + 1 - 1 = i by omega, hx, hy] at hs
  refine Q7 rfl (fun he => ?_) (fun he => ?_)
  rotate_left
  · (refine Q5 (Qq (Qx fun K hK => ?_)); refine Qz rfl rfl rfl ?_; refine Qk (iadd (by omega) (by omega)) rfl rfl rfl rfl ?_; refine Qy rfl rfl rfl ?_; refine Qv (hK _ _ (Qa ?_)); clear hK K)
    refine Qg (i + 1) (by omega) ⟨by omega, ?_⟩ (by exact QK rfl ⟨rfl, by simp only [Int.natCast_add]; rfl, trivial⟩)
    rw [hs, if_neg he, hd, List.take_add_one (i := i + 1), List.getElem?_eq_getElem (by omega), ← hy, List.getD_eq_getElem?_getD, List.getElem?_eq_getElem (by omega)]; rfl
  rw [if_pos he, hd] at hs
  refine St.nameS 0 0 l.length rfl rfl (XK l) (by omega) (by decide) (fun gb c hc1 hc2 => ?_)
  (refine Qw (Qx fun K hK => ?_); refine Qz rfl rfl rfl ?_; refine Qz rfl rfl rfl ?_)
  refine Ops.cutKl (i + 1) rfl rfl rfl (by omega) sClaims (by omega) rfl ?_
  rw [if_neg (show ¬ c = i + 1 by omega), Nat.zero_add]
  (refine Qy rfl rfl rfl ?_; refine Qv (hK _ _ (Qq (Qw (Qw ?_)))); clear hK K; refine Qx (fun K hK => ?_); refine Qy rfl rfl rfl ?_; refine Qv (hK _ _ (Qq (Q4 ?_))); clear hK K)
  refine Qt (α := Nat) (fun j => i + 2 + j ≤ l.length ∧ (dd (l.take (i + 2 + j))).length < i + 2 + j)
    (fun j => [(0, .ct (.ex (kh gb 0 l.length c))), (3, .ct (intC (dd (l.take (i + 2 + j))).length)), (4, .ct (.ex (kh gb ((i + 1) * 7) (l.length - (i + 1)) (c - (i + 1))))), (5, .ct (intC (j + 1)))])
    (fun j => [(0, .rowx (kh gb 0 l.length c) 62 7 (cls (dd (l.take (i + 2 + j)) ++ l.drop (dd (l.take (i + 2 + j))).length)))]) (fun j => l.length - j) 0
    ⟨by omega, by rw [Nat.add_zero, hs, List.length_take]; omega⟩ (by
      rw [Nat.add_zero, hs, List.length_take, Nat.min_eq_left hi, List.take_append_drop]
      exact QK rfl ⟨rfl, rfl, rfl, rfl, trivial⟩) ?_
  clear hs
  rintro j ⟨hj, hD⟩
  try dsimp only at hj hD
  try dsimp only
  have hs := dd_step (l := l) (z := c0) (p := i + 2 + j) (by omega)
  generalize hDD : dd (l.take (i + 2 + j)) = D at hs hD ⊢
  have hrl : (D ++ l.drop D.length).length = l.length := by rw [List.length_append, List.length_drop]; omega
  have hat : ∀ q, D.length ≤ q → (D ++ l.drop D.length).getD q c0 = l.getD q c0 := fun q hq => row_at D l q c0 hq
  (refine Qw (Qw (Qx fun K hK => ?_)); refine Qz rfl rfl rfl ?_; refine Qz rfl rfl rfl ?_)
  refine Ops.lenKv rfl rfl sClaims.und rfl ?_
  (refine Qk ilss rfl rfl rfl rfl ?_; refine Qv (hK _ _ (Qq ?_)); clear hK K)
  refine Q7 rfl (fun h2 => ?_) (fun h2 => ?_)
  · (refine Q5 (Qq (Qw (Q4 (Qw ?_)))))
    refine Qp (by with_reducible exact mixed) 10 (.p 0 (.p 1 (.p 2 (.p 4 (.p 5 (.p 6 (.p 7 (.f 3 (.f 8 (.p 9 .done)))))))))) (by kernel_rfl) (fun K hK => ?_)
    (refine Qz rfl rfl rfl ?_; refine Qz rfl rfl rfl ?_)
    refine Yj 0 (i + 1) rfl rfl rfl rfl sClaims (by omega) (by omega) rfl ?_
    (refine Qz rfl rfl rfl ?_; refine Qz rfl rfl rfl ?_; refine Qk (isub (by omega) (by omega)) rfl rfl rfl rfl ?_)
    refine Yj 0 (i + 1) rfl rfl rfl rfl sClaims (by omega) (by omega) rfl ?_
    skip
    refine ldE clCs c0 cl_len rfl rfl rfl rfl rfl (by omega) (by with_reducible exact Xz) rfl ?_
    refine ldE clCs c0 cl_len rfl rfl rfl rfl rfl (by omega) (by with_reducible exact Xz) rfl ?_
    rw [show i + 1 + ((j : Int) + 1).toNat = i + 2 + j by omega, show i + 1 + ((j : Int) + 1 - 1).toNat = i + 2 + j - 1 by omega, hat _ (by omega), hat _ (by omega)]
    have hs := hs (by omega)
    generalize hx2 : l.getD (i + 2 + j - 1) c0 = x2 at hs ⊢
    generalize hy2 : l.getD (i + 2 + j) c0 = y2 at hs ⊢
    refine neCl' y2 x2 rfl rfl rfl rfl rfl ?_
    (refine Qv (hK _ _ (Qq ?_)); clear hK K)
    refine Q7 rfl (fun he2 => ?_) (fun he2 => ?_)
    · rw [if_neg he2] at hs
      (refine Qw (Qx fun K hK => ?_); refine Qz rfl rfl rfl ?_; refine Qz rfl rfl rfl ?_; refine Qz rfl rfl rfl ?_; refine Qz rfl rfl rfl ?_)
      refine Yj 0 (i + 1) rfl rfl rfl rfl sClaims (by omega) (by omega) rfl ?_
      refine ldE clCs c0 cl_len rfl rfl rfl rfl rfl (by omega) (by with_reducible exact Xz) rfl ?_
      rw [show i + 1 + ((j : Int) + 1).toNat = i + 2 + j by omega, hat _ (by omega), hy2]
      refine Yj 0 0 rfl rfl rfl rfl sClaims (by omega) (by omega) rfl ?_
      rw [Nat.zero_add, show ((D.length : Int)).toNat = D.length by omega]
      refine stEX clCs y2 cl_len rfl rfl rfl rfl rfl (by omega) (by with_reducible exact Zg) ?_
      rw [row_set D l y2 (by omega)]
      (refine Qv (hK _ _ (Qq ?_)); clear hK K; refine Qx (fun K hK => ?_); refine Qz rfl rfl rfl ?_; refine Qk (iadd (by omega) (by omega)) rfl rfl rfl rfl ?_; refine Qy rfl rfl rfl ?_; refine Qv (hK _ _ (Qq ?_)); clear hK K; refine Qx (fun K hK => ?_); refine Qz rfl rfl rfl ?_; refine Qk (iadd (by omega) (by omega)) rfl rfl rfl rfl ?_; refine Qy rfl rfl rfl ?_; refine Qv (hK _ _ (Qa ?_)); clear hK K)
      refine Qg (j + 1) (by omega) ⟨by omega, by show (dd (l.take (i + 2 + j + 1))).length < _; rw [hs, List.length_append]; show D.length + 1 < _; omega⟩ ?_
      rw [show i + 2 + (j + 1) = i + 2 + j + 1 by omega, hs, List.length_append]
      exact QK rfl ⟨rfl, by simp only [Int.natCast_add]; rfl, rfl, by simp only [Int.natCast_add]; rfl, trivial⟩
    · rw [if_pos (Decidable.not_not.1 he2)] at hs
      (refine Q5 (Qq (Qx fun K hK => ?_)); refine Qz rfl rfl rfl ?_; refine Qk (iadd (by omega) (by omega)) rfl rfl rfl rfl ?_; refine Qy rfl rfl rfl ?_; refine Qv (hK _ _ (Qa ?_)); clear hK K)
      refine Qg (j + 1) (by omega) ⟨by omega, by show (dd (l.take (i + 2 + j + 1))).length < _; rw [hs]; omega⟩ ?_
      rw [show i + 2 + (j + 1) = i + 2 + j + 1 by omega, hs]
      exact QK rfl ⟨rfl, rfl, rfl, by simp only [Int.natCast_add]; rfl, trivial⟩
  · have e : dd l = D := by rw [← hDD, List.take_of_length_le (by omega)]
    rw [e]
    (refine Qh (Qq (Qw (Qx fun K hK => ?_))); refine Qz rfl rfl rfl ?_; refine Qz rfl rfl rfl ?_)
    refine Ops.cutKl D.length rfl rfl rfl rfl sClaims (by omega) rfl ?_
    skip
    refine Ops.cutOff 0 D.length rfl (by show (cls _).length = _; rw [XK, hrl]) (by decide) (by omega) (by show (cls _).take _ = cls D; rw [cls_take', List.take_left]) ?_
    refine Ops.clearK 0 rfl rfl (by split <;> omega) rfl (XK D) (by omega) sClaims (by decide) ?_
    (refine Qv (hK _ _ (Qq (Qw ?_))); clear hK K; refine Qx (fun K hK => ?_); refine Qz rfl rfl rfl ?_; refine Qz rfl rfl rfl ?_)
    refine Ops.cutKh D.length rfl rfl rfl rfl sClaims (by omega) rfl ?_
    (refine Qy rfl rfl rfl ?_; refine Qv (hK _ _ (Qq (Q0 (Q6 (QV (QV (Q6 (QV ?_)))))))); clear hK K)
    refine Fin.link 2 0 rfl rfl ?_
    refine Z1 rfl rfl rfl
end Go.Proofs.YtcelmhkpcdhneaaGreat
namespace Go.Own
open Go.RowKit Go.Sort Go.Shelf Go.Lib Go.Proofs
theorem grown_of {w w' : World} (h : Below w.heap.size w w') : ∃ q os', w' = grow (w.drewN q) os' := by
  refine ⟨w'.drawn - w.drawn, w'.heap.extract w.heap.size w'.heap.size, ?_⟩
  obtain ⟨h1, h2, h3, h4, h5, h6⟩ := h
  obtain ⟨heap, tape, drawn, os, output⟩ := w
  obtain ⟨heap', tape', drawn', os', output'⟩ := w'
  dsimp only at h1 h2 h3 h4 h5 h6
  subst h1 h2 h3
  unfold grow World.drewN
  dsimp only
  congr 1
  · apply Array.ext_getElem?
    intro k
    rcases Nat.lt_or_ge k heap.size with hk | hk
    · rw [h5 k hk, Array.getElem?_append_left hk]
    · rw [Array.getElem?_append_right hk, Array.getElem?_extract]
      split
      · congr 1; omega
      · rw [Array.getElem?_eq_none (by omega)]
  · omega
section
variable {α : Type} [Inhabited α] {P : Program} {enc : α → List Value} {k : Nat} {cf : α → α → Int} {g : Nat}
abbrev encC (enc : α → List Value) (x : α) : List CT := (enc x).map CT.ex
abbrev flatC (enc : α → List Value) (l : List α) : List CT := (l.map (encC enc)).flatten
theorem cells_ex' (S : BSet) (w : World) : ∀ vs : List Value, cells S w (vs.map CT.ex) vs
  | [] => trivial
  | v :: vs => ⟨rfl, cells_ex' S w vs⟩
theorem cmpLays_of (hc : ∀ x y, Ok P g [.fr (aggT (encC enc x)), .fr (aggT (encC enc y))] (.ex (.int .i64 (cf x y)))) (blk off size : Nat) (w : World) : CmpLays P g #[] enc k cf blk off size w := fun m os dk _ x y => by
  refine (hc x y (fun _ => True) _ [.agg (enc x).toArray, .agg (enc y).toArray] (fun _ _ => trivial) ⟨⟨_, rfl, cells_ex' _ _ _⟩, ⟨_, rfl, cells_ex' _ _ _⟩, trivial⟩).mono ?_
  rintro e w' ⟨v, rfl, hv, hb⟩
  have hv : v = .int .i64 (cf x y) := hv
  subst hv
  exact ⟨rfl, grown_of hb⟩
theorem ex_cells {S : BSet} {w : World} : ∀ {vs us : List Value}, cells S w (vs.map CT.ex) us → us = vs
  | [], [], _ => rfl
  | [], _ :: _, h => h.elim
  | _ :: _, [], h => h.elim
  | v :: vs, u :: us, h => by
    have h1 : u = v := h.1
    rw [h1, ex_cells h.2]
omit [Inhabited α] in
theorem flatC_eq (enc : α → List Value) (l : List α) : flatC enc l = ((l.map enc).flatten).map CT.ex := by
  unfold flatC
  rw [List.map_flatten, List.map_map]; rfl
omit [Inhabited α] in
theorem flat_len (hk : ∀ x, (enc x).length = k) (l : List α) : (l.map enc).flatten.length = l.length * k := by
  induction l with
  | nil => simp
  | cons a l ih => rw [List.map_cons, List.flatten_cons, List.length_append, hk, ih, List.length_cons, Nat.succ_mul, Nat.add_comm]
theorem flat_get (hk : ∀ x, (enc x).length = k) : ∀ (l : List α) (i o : Nat), i < l.length → o < k → (l.map enc).flatten[i * k + o]? = (enc (l.getD i default))[o]?
  | [], i, o, h, _ => by simp at h
  | a :: l, 0, o, _, ho => by
    rw [List.map_cons, List.flatten_cons, Nat.zero_mul, Nat.zero_add, List.getElem?_append_left (by rw [hk]; exact ho)]; rfl
  | a :: l, i + 1, o, h, ho => by
    rw [List.map_cons, List.flatten_cons, List.getElem?_append_right (by rw [hk, Nat.succ_mul]; omega), hk]
    rw [show (i + 1) * k + o - k = i * k + o by rw [Nat.succ_mul]; omega, flat_get hk l i o (by simpa using h) ho]; rfl
theorem flatK_list (hk : ∀ x, (enc x).length = k) (k0 : 0 < k) (l : List α) : (flatK enc k l.toArray).toList = (l.map enc).flatten := by
  apply List.ext_getElem?
  intro t
  rcases Nat.lt_or_ge t (l.length * k) with h | h
  · have h1 : t < (flatK enc k l.toArray).size := by rw [size_flatK]; simpa using h
    have h2 := get_flatK enc k l.toArray t (by simpa using h)
    have hd : t / k < l.length := Nat.div_lt_of_lt_mul (by rw [Nat.mul_comm]; exact h)
    have hm : t % k < k := Nat.mod_lt _ k0
    have e : t = t / k * k + t % k := by rw [Nat.mul_comm]; exact (Nat.div_add_mod t k).symm
    rw [Array.getElem?_toList, Array.getElem?_eq_getElem h1]
    rw [getElem!_pos _ t h1] at h2
    rw [h2]
    conv => rhs; rw [e]
    rw [flat_get hk l _ _ hd hm]
    have e3 : l.toArray[t / k]! = l.getD (t / k) default := by
      rw [getElem!_pos _ _ (by simpa using hd), List.getElem_toArray, List.getD_eq_getElem?_getD, List.getElem?_eq_getElem hd]; rfl
    rw [e3]
    have hl : t % k < (enc (l.getD (t / k) default)).length := by rw [hk]; exact hm
    rw [getElem!_pos (enc (l.getD (t / k) default)) (t % k) hl, List.getElem?_eq_getElem hl]
  · rw [List.getElem?_eq_none (show (flatK enc k l.toArray).toList.length ≤ t by rw [Array.length_toList, size_flatK]; simpa using h), List.getElem?_eq_none (show (l.map enc).flatten.length ≤ t by rw [flat_len hk]; exact h)]
end
section
variable {α : Type} [Inhabited α] {P : Program} {ρ : Ren} {enc : α → List Value} {k : Nat} {cf : α → α → Int} {g : Nat}
set_option maxHeartbeats 1000000 in
theorem sortFunc_L (L : SlLaysF0.n6 P ρ) (k0 : 0 < k) (aE : ∀ w, (isAgg (ρ.t 24)).run P w = .ok true w) (zE : ∀ w, (Go.sizeOf (ρ.t 24)).run P w = .ok k w) (hk : ∀ x, (enc x).length = k) (h1 : ∀ x, ∀ v ∈ enc x, v.oneCell' = true)
    (hO : SWO (ltOf cf)) (hT : ∀ x y, (ltOf cf) x y = false → (ltOf cf) y x = false → x = y) (eg : ∀ args w, (callFunc g args).run P w = .ok (.enter g args) w)
    (hc : ∀ x y, Ok P g [.fr (aggT (encC enc x)), .fr (aggT (encC enc y))] (.ex (.int .i64 (cf x y)))) (el : TypeId) (l : List α) (hl : l.length < 4611686018427387904) :
    OkL P (ρ.f 6) el k (flatC enc l) [.ex (.func (.func g) #[] #[])] (.fr (tupT [])) (flatC enc (l.mergeSort fun x y => !(ltOf cf) y x)) := by
  intro S w h vs hS hgS hrow hA
  obtain ⟨n, us, how, hcs⟩ := hrow
  rw [flatC_eq] at hcs
  obtain rfl := ex_cells hcs
  obtain rfl : vs = [.func (.func g) #[] #[]] := by
    cases vs with
    | nil => exact hA.elim
    | cons v vs =>
      cases vs with
      | nil =>
        have : v = .func (.func g) #[] #[] := hA.1
        rw [this]
      | cons u us => exact hA.2.elim
  have hlen := how.1
  rw [flat_len hk] at hlen
  have hn : l.length = n := Nat.eq_of_mul_eq_mul_right k0 hlen
  rcases how.2 with ⟨rfl, h0⟩ | ⟨gb, cap, cur, rfl, _, hgb, hnc, hcm, hcz, htk⟩
  · have e : l = [] := List.length_eq_zero_iff.1 (by omega)
    subst e
    refine (AnyF.slices_SortFunc_none L none 0 _ w).mono ?_
    rintro e w' ⟨rfl, rfl⟩
    exact ⟨_, rfl, ⟨[], rfl, trivial⟩, ⟨n, [], ⟨by simpa using hlen, .inl ⟨rfl, h0⟩⟩, by rw [List.mergeSort_nil]; trivial⟩, ⟨rfl, rfl, rfl, Nat.le_refl _, fun _ _ _ => rfl, Nat.le_refl _⟩⟩
  · subst hn
    have hH : HoldsK enc k w gb 0 l.toArray := by
      intro j hj
      have hj' : j < l.length * k := by simpa using hj
      have hc2 : cur[j]? = some (flatK enc k l.toArray)[j]! := by
        have h3 : (flatK enc k l.toArray).toList[j]? = some (flatK enc k l.toArray)[j]! := by
          rw [Array.getElem?_toList, Array.getElem?_eq_getElem hj, getElem!_pos _ j hj]
        rw [flatK_list hk k0, ← htk, List.getElem?_take, if_pos hj'] at h3
        rw [← Array.getElem?_toList]; exact h3
      constructor
      · show (match w.heap[gb]? with | some (.cells c _ _) => if (none : Option _).isSome then none else c[0 + j]? | _ => none) = _
        rw [hgb, Nat.zero_add]
        exact hc2
      · show (match w.heap[gb]? with | some (.cells _ _ (lo, hi)) => decide (lo ≤ 0 + j) && decide (0 + j < hi) | _ => false) = _
        rw [hgb]
        simp
    have hsz : gb < w.heap.size := Zs hgb
    have hcon := AnyQ.slices_SortFunc_total L k aE zE enc hk h1 cf hO g #[] gb 0 cap l.toArray w eg (cmpLays_of hc gb 0 _ w) hH hsz (by simpa using hl) hT
    refine hcon.mono ?_
    rintro e w' ⟨rfl, m, os, rfl⟩
    generalize hd : (l.toArray.toList.mergeSort fun x y => !(ltOf cf) y x) = d
    have hd2 : (l.mergeSort fun x y => !(ltOf cf) y x) = d := by rw [← hd]
    have hdl : d.length = l.length := by rw [← hd2, List.length_mergeSort]
    have hFs : (flatK enc k d.toArray).size = l.length * k := by rw [size_flatK]; simp [hdl]
    have hheap : (sortWorldK enc k w gb 0 m d.toArray os).heap = (w.heap.modify gb (onCells (putCells id 0 (flatK enc k d.toArray)))) ++ os := rfl
    have hms : (w.heap.modify gb (onCells (putCells id 0 (flatK enc k d.toArray)))).size = w.heap.size := Array.size_modify ..
    refine ⟨_, rfl, ⟨[], rfl, trivial⟩, ⟨l.length, (d.map enc).flatten, ⟨by rw [flat_len hk, hdl], .inr ⟨gb, cap, putCells id 0 (flatK enc k d.toArray) cur, rfl, Nat.zero_le _, ?_, hnc, hcm, ?_, ?_⟩⟩, ?_⟩, ⟨rfl, rfl, rfl, ?_, fun q hq hne => ?_, ?_⟩⟩
    · rw [hheap, Array.getElem?_append_left (by rw [hms]; exact hsz), Array.getElem?_modify, if_pos rfl, hgb]; rfl
    · unfold putCells; rw [Array.size_mapIdx]; exact hcz
    · have hle : l.length * k ≤ cur.size := by rw [hcz]; exact Nat.mul_le_mul_right _ hnc
      apply List.ext_getElem?
      intro t
      rw [List.getElem?_take]
      rcases Nat.lt_or_ge t (l.length * k) with ht | ht
      · rw [if_pos ht, Array.getElem?_toList, ← flatK_list hk k0, Array.getElem?_toList]
        unfold putCells
        rw [Array.getElem?_mapIdx, Array.getElem?_eq_getElem (show t < cur.size by omega), Array.getElem?_eq_getElem (show t < (flatK enc k d.toArray).size by omega)]
        simp only [Option.map_some, id]
        rw [if_pos ⟨Nat.zero_le _, by omega⟩, Nat.sub_zero, getElem!_pos _ t (by omega)]
      · rw [if_neg (by omega), List.getElem?_eq_none (by rw [flat_len hk, hdl]; exact ht)]
    · rw [flatC_eq]; exact cells_ex' _ _ _
    · show w.heap.size ≤ (sortWorldK enc k w gb 0 m d.toArray os).heap.size
      rw [hheap, Array.size_append, hms]; omega
    · have hq : q < w.heap.size := hq
      have hne : gb ≠ q := fun e => hne (by rw [← e]; rfl)
      rw [hheap, Array.getElem?_append_left (by rw [hms]; exact hq), Array.getElem?_modify, if_neg hne]
    · show w.drawn ≤ w.drawn + m
      omega
end
end Go.Own
namespace Go.Limbs
open Go.Sort Go.Shelf Go.Proofs
variable {α : Type} {cf : α → α → Int}
structure Ord (cf : α → α → Int) : Prop where
  anti : ∀ a b, cf b a = - cf a b
  eq0 : ∀ a b, cf a b = 0 → a = b
  trans : ∀ a b c, cf a b < 0 → cf b c < 0 → cf a c < 0
theorem Ord.self (O : Ord cf) (a : α) : cf a a = 0 := by have := O.anti a a; omega
theorem Ord.swo (O : Ord cf) : SWO (ltOf cf) := by
  have nt : ∀ x y z, cf x z < 0 → cf x y < 0 ∨ cf y z < 0 := fun x y z h => by
    rcases Int.lt_trichotomy (cf x y) 0 with h1 | h1 | h1
    · exact .inl h1
    · rw [O.eq0 x y h1] at h; exact .inr h
    · exact .inr (O.trans y x z (by rw [O.anti x y]; omega) h)
  refine ⟨fun x => ?_, fun x y z h1 h2 => ?_, fun x y z h1 h2 => ?_⟩
  · simp only [ltOf, O.self]; decide
  · simp only [ltOf, decide_eq_true_eq] at *
    exact O.trans x y z h1 h2
  · simp only [ltOf, decide_eq_false_iff_not] at *
    intro h
    rcases nt x y z h with h | h
    · exact h1 h
    · exact h2 h
theorem Ord.tot (O : Ord cf) : ∀ x y, (ltOf cf) x y = false → (ltOf cf) y x = false → x = y := fun x y h1 h2 => by
  simp only [ltOf, decide_eq_false_iff_not] at *
  rw [O.anti x y] at h2
  exact O.eq0 x y (by omega)
def Up (cf : α → α → Int) (l : List α) : Prop := l.Pairwise (fun a b => cf a b < 0)
theorem Up.ext (O : Ord cf) : ∀ {l m : List α}, Up cf l → Up cf m → (∀ x, x ∈ l ↔ x ∈ m) → l = m
  | [], [], _, _, _ => rfl
  | [], y :: m, _, _, h => by have := (h y).2 (List.mem_cons_self ..); cases this
  | x :: l, [], _, _, h => by have := (h x).1 (List.mem_cons_self ..); cases this
  | x :: l, y :: m, hl, hm, h => by
    have hl' := List.pairwise_cons.1 hl
    have hm' := List.pairwise_cons.1 hm
    have e : x = y := by
      rcases List.mem_cons.1 ((h x).1 (List.mem_cons_self ..)) with e | e
      · exact e
      · rcases List.mem_cons.1 ((h y).2 (List.mem_cons_self ..)) with e' | e'
        · exact e'.symm
        · have h1 := hm'.1 x e
          have h2 := hl'.1 y e'
          rw [O.anti y x] at h2
          omega
    subst e
    have nl : x ∉ l := fun hx => by have := hl'.1 x hx; rw [O.self] at this; omega
    have nm : x ∉ m := fun hx => by have := hm'.1 x hx; rw [O.self] at this; omega
    rw [Up.ext O hl'.2 hm'.2 (fun z => ⟨fun hz => by
      rcases List.mem_cons.1 ((h z).1 (List.mem_cons_of_mem _ hz)) with rfl | h1
      · exact absurd hz nl
      · exact h1, fun hz => by
      rcases List.mem_cons.1 ((h z).2 (List.mem_cons_of_mem _ hz)) with rfl | h1
      · exact absurd hz nm
      · exact h1⟩)]
section
variable [DecidableEq α]
theorem ddF_up (O : Ord cf) : ∀ (l : List α) (a : α), (a :: l).Pairwise (fun a b => cf a b ≤ 0) → Up cf (a :: ddF a l) ∧ ∀ x, x ∈ a :: ddF a l ↔ x ∈ a :: l
  | [], a, _ => ⟨List.pairwise_singleton _ _, fun x => Iff.rfl⟩
  | b :: l, a, h => by
    have h' := List.pairwise_cons.1 h
    unfold ddF
    by_cases e : b = a
    · subst e
      rw [if_pos rfl]
      obtain ⟨h1, h2⟩ := ddF_up O l b h'.2
      exact ⟨h1, fun x => by rw [h2 x]; simp⟩
    · rw [if_neg e]
      obtain ⟨h1, h2⟩ := ddF_up O l b h'.2
      refine ⟨List.pairwise_cons.2 ⟨fun x hx => ?_, h1⟩, fun x => by rw [List.mem_cons, h2 x, List.mem_cons (a := x) (b := a)]⟩
      have hb := h'.1 b (List.mem_cons_self ..)
      have hb2 : cf a b < 0 := by
        rcases Int.lt_or_eq_of_le hb with h3 | h3
        · exact h3
        · exact absurd (O.eq0 a b h3).symm e
      rcases List.mem_cons.1 hx with rfl | hx
      · exact hb2
      · exact O.trans a b x hb2 ((List.pairwise_cons.1 h1).1 x hx)
def sd (cf : α → α → Int) (l : List α) : List α := dd (l.mergeSort fun x y => !(ltOf cf) y x)
theorem sd_spec (O : Ord cf) (l : List α) : Up cf (sd cf l) ∧ ∀ x, x ∈ sd cf l ↔ x ∈ l := by
  have hp : (l.mergeSort fun x y => !(ltOf cf) y x).Pairwise (fun a b => cf a b ≤ 0) := by
    have h := List.pairwise_mergeSort (le := fun x y => !(ltOf cf) y x) (fun a b c h1 h2 => by
      simp only [ltOf, Bool.not_eq_true', decide_eq_false_iff_not] at *
      intro h
      rcases Int.lt_trichotomy (cf c b) 0 with h3 | h3 | h3
      · exact h2 h3
      · rw [O.eq0 c b h3] at h; exact h1 h
      · exact h1 (O.trans b c a (by rw [O.anti c b]; omega) h)) (fun a b => by
      simp only [ltOf, Bool.or_eq_true, Bool.not_eq_true', decide_eq_false_iff_not]
      rw [O.anti a b]; omega) l
    refine h.imp (fun {a b} hab => ?_)
    simp only [ltOf, Bool.not_eq_true', decide_eq_false_iff_not] at hab
    rw [O.anti a b] at hab; omega
  have hm : ∀ x, x ∈ (l.mergeSort fun x y => !(ltOf cf) y x) ↔ x ∈ l := fun x => List.mem_mergeSort
  unfold sd
  generalize (l.mergeSort fun x y => !(ltOf cf) y x) = m at *
  cases m with
  | nil => exact ⟨List.Pairwise.nil, hm⟩
  | cons a m =>
    obtain ⟨h1, h2⟩ := ddF_up O m a hp
    exact ⟨h1, fun x => (h2 x).trans (hm x)⟩
theorem sd_len (cf : α → α → Int) (l : List α) : (sd cf l).length ≤ l.length := Nat.le_trans (dd_len _) (Nat.le_of_eq (List.length_mergeSort _))
end
def posF (cf : α → α → Int) (z : α) (l : List α) (c : α) : Nat → Nat
  | 0 => 0
  | k + 1 => if 0 < cf (l.getD k z) c then posF cf z l c k else k + 1
theorem posF_le (cf : α → α → Int) (z : α) (l : List α) (c : α) : ∀ k, posF cf z l c k ≤ k
  | 0 => Nat.le_refl _
  | k + 1 => by simp only [posF]; split
                · exact Nat.le_succ_of_le (posF_le cf z l c k)
                · exact Nat.le_refl _
theorem posF_step (cf : α → α → Int) (z : α) (l : List α) (c : α) {k : Nat} (h : 0 < k) : posF cf z l c k = if 0 < cf (l.getD (k - 1) z) c then posF cf z l c (k - 1) else k := by
  obtain ⟨q, rfl⟩ : ∃ q, k = q + 1 := ⟨k - 1, by omega⟩
  rfl
def putF (cf : α → α → Int) (z : α) (l : List α) (c : α) : List α :=
  if posF cf z l c l.length ≠ 0 ∧ cf (l.getD (posF cf z l c l.length - 1) z) c = 0 then l else l.take (posF cf z l c l.length) ++ c :: l.drop (posF cf z l c l.length)
theorem posF_spec (z : α) (l : List α) (c : α) : ∀ k, k ≤ l.length → (∀ x ∈ (l.take k).drop (posF cf z l c k), 0 < cf x c) ∧ (posF cf z l c k ≠ 0 → ¬ 0 < cf (l.getD (posF cf z l c k - 1) z) c)
  | 0, _ => ⟨by simp [posF], fun h => absurd rfl h⟩
  | k + 1, hk => by
    obtain ⟨h1, h2⟩ := posF_spec z l c k (by omega)
    have hle := posF_le cf z l c k
    have ht : l.take (k + 1) = l.take k ++ [l.getD k z] := by
      rw [List.take_add_one, List.getElem?_eq_getElem (by omega), List.getD_eq_getElem?_getD, List.getElem?_eq_getElem (by omega)]; rfl
    simp only [posF]
    by_cases h : 0 < cf (l.getD k z) c
    · rw [if_pos h]
      refine ⟨fun x hx => ?_, h2⟩
      rw [ht, List.drop_append_of_le_length (by simp; omega)] at hx
      rcases List.mem_append.1 hx with hx | hx
      · exact h1 x hx
      · rw [List.mem_singleton.1 hx]; exact h
    · rw [if_neg h]
      refine ⟨fun x hx => ?_, fun _ => h⟩
      rw [List.drop_of_length_le (by simp; omega)] at hx
      cases hx
theorem putF_up (O : Ord cf) {z : α} {l : List α} {c : α} (ha : Up cf l) : Up cf (putF cf z l c) := by
  obtain ⟨h1, h2⟩ := posF_spec (cf := cf) z l c l.length (Nat.le_refl _)
  have hle := posF_le cf z l c l.length
  rw [List.take_length] at h1
  unfold putF
  generalize posF cf z l c l.length = k at *
  split
  · exact ha
  · rename_i hne
    have hs : Up cf (l.take k ++ l.drop k) := by rw [List.take_append_drop]; exact ha
    obtain ⟨hs1, hs2, hs3⟩ := List.pairwise_append.1 hs
    have hd : ∀ y ∈ l.drop k, cf c y < 0 := fun y hy => by
      have := h1 y hy
      rw [O.anti y c]; omega
    have ht : ∀ x ∈ l.take k, cf x c < 0 := fun x hx => by
      have hk0 : k ≠ 0 := fun h => by subst h; simp at hx
      have ht : l.take k = l.take (k - 1) ++ [l.getD (k - 1) z] := by
        obtain ⟨q, rfl⟩ : ∃ q, k = q + 1 := ⟨k - 1, by omega⟩
        rw [Nat.add_sub_cancel, List.take_add_one, List.getElem?_eq_getElem (by omega), List.getD_eq_getElem?_getD, List.getElem?_eq_getElem (by omega)]; rfl
      have hlast : cf (l.getD (k - 1) z) c < 0 := by
        have h3 := h2 hk0
        have h4 : cf (l.getD (k - 1) z) c ≠ 0 := fun h => hne ⟨hk0, h⟩
        omega
      rw [ht] at hx hs1
      rcases List.mem_append.1 hx with hx | hx
      · exact O.trans _ _ _ ((List.pairwise_append.1 hs1).2.2 x hx _ (List.mem_singleton_self _)) hlast
      · rw [List.mem_singleton.1 hx]; exact hlast
    refine List.pairwise_append.2 ⟨hs1, List.pairwise_cons.2 ⟨hd, hs2⟩, fun x hx y hy => ?_⟩
    rcases List.mem_cons.1 hy with rfl | hy
    · exact ht x hx
    · exact O.trans _ _ _ (ht x hx) (hd y hy)
theorem putF_mem (O : Ord cf) {z : α} {l : List α} {c x : α} : x ∈ putF cf z l c ↔ x ∈ l ∨ x = c := by
  have hle := posF_le cf z l c l.length
  unfold putF
  generalize posF cf z l c l.length = k at *
  split
  · rename_i h
    have hm : c ∈ l := by
      rw [← O.eq0 _ _ h.2, List.getD_eq_getElem?_getD, List.getElem?_eq_getElem (by omega)]
      exact List.getElem_mem _
    exact ⟨.inl, fun h => h.elim id (fun h => h ▸ hm)⟩
  · conv => rhs; rw [← List.take_append_drop k l]
    simp only [List.mem_append, List.mem_cons]
    constructor
    · rintro (h | h | h)
      · exact .inl (.inl h)
      · exact .inr h
      · exact .inl (.inr h)
    · rintro ((h | h) | h)
      · exact .inl h
      · exact .inr (.inr h)
      · exact .inr (.inl h)
theorem putF_len (cf : α → α → Int) (z : α) (l : List α) (c : α) : (putF cf z l c).length ≤ l.length + 1 := by
  unfold putF
  split
  · omega
  · simp; omega
def ordF (cf : α → α → Int) (z : α) (ok : α → Bool) : List α → List α → List α
  | [], out => out
  | c :: l, out => ordF cf z ok l (if ok c then putF cf z out c else out)
theorem ordF_spec (O : Ord cf) (z : α) (ok : α → Bool) : ∀ (l out : List α), Up cf out → Up cf (ordF cf z ok l out) ∧ ∀ x, x ∈ ordF cf z ok l out ↔ x ∈ out ∨ (x ∈ l ∧ ok x = true)
  | [], out, h => ⟨h, fun x => by simp [ordF]⟩
  | c :: l, out, h => by
    simp only [ordF]
    by_cases hc : ok c = true
    · rw [if_pos hc]
      obtain ⟨h1, h2⟩ := ordF_spec O z ok l (putF cf z out c) (putF_up O h)
      refine ⟨h1, fun x => ?_⟩
      rw [h2 x, putF_mem O]
      constructor
      · rintro ((h | rfl) | h)
        · exact .inl h
        · exact .inr ⟨List.mem_cons_self .., hc⟩
        · exact .inr ⟨List.mem_cons_of_mem _ h.1, h.2⟩
      · rintro (h | ⟨h, h3⟩)
        · exact .inl (.inl h)
        · rcases List.mem_cons.1 h with rfl | h
          · exact .inl (.inr rfl)
          · exact .inr ⟨h, h3⟩
    · rw [if_neg hc]
      obtain ⟨h1, h2⟩ := ordF_spec O z ok l out h
      refine ⟨h1, fun x => ?_⟩
      rw [h2 x]
      constructor
      · rintro (h | h)
        · exact .inl h
        · exact .inr ⟨List.mem_cons_of_mem _ h.1, h.2⟩
      · rintro (h | ⟨h, h3⟩)
        · exact .inl h
        · rcases List.mem_cons.1 h with rfl | h
          · exact absurd h3 hc
          · exact .inr ⟨h, h3⟩
theorem known_eq [DecidableEq α] (O : Ord cf) (z : α) (ok kn : α → Bool) (l : List α) : (sd cf (l.filter ok)).filter kn = ordF cf z ok (l.filter kn) [] := by
  obtain ⟨h1, h2⟩ := sd_spec O (l.filter ok)
  obtain ⟨h3, h4⟩ := ordF_spec O z ok (l.filter kn) [] List.Pairwise.nil
  refine Up.ext O (h1.sublist List.filter_sublist) h3 (fun x => ?_)
  rw [h4 x, List.mem_filter, h2 x, List.mem_filter, List.mem_filter]
  simp only [List.not_mem_nil, false_or]
  constructor
  · rintro ⟨⟨a, b⟩, c⟩; exact ⟨⟨a, c⟩, b⟩
  · rintro ⟨⟨a, c⟩, b⟩; exact ⟨⟨a, b⟩, c⟩
end Go.Limbs
namespace Go.Proofs.YtcelmhkpcdhneaaGreat
open Go.Shelf
def laySortR_ren : Go.Shelf.Ren := ⟨fun | 6 => 59 | 15 => 78 | 14 => 77 | 28 => 98 | 29 => 99 | 20 => 90 | 21 => 91 | 22 => 92 | 23 => 93 | 24 => 94 | 25 => 95 | 26 => 96 | 27 => 97 | 46 => 110 | 47 => 111 | 48 => 112 | 49 => 113 | 50 => 114 | 57 => 118 | n => n, fun | 22 => 23 | 24 => 77 | 25 => 105 | 3 => 3 | 39 => 118 | 0 => 0 | 53 => 58 | 55 => 143 | 4 => 4 | 46 => 135 | 45 => 134 | 50 => 139 | 5 => 5 | 9 => 9 | 66 => 149 | 70 => 153 | 76 => 157 | 77 => 158 | n => n, fun | n => n⟩
theorem laySortR : Go.Proofs.SlLaysF0.n6 Tryz.prog laySortR_ren := {
  mixed := by kernel_rfl
  f6 := ⟨Tryz.f59.name, by decide, Tryz.func59.trans (congrArg some (by kernel_rfl))⟩
  f14 := ⟨Tryz.f77.name, by decide, Tryz.func77.trans (congrArg some (by kernel_rfl))⟩
  f15 := Tryz.func78.trans (congrArg some (by kernel_rfl))
  f20 := ⟨Tryz.f90.name, by decide, Tryz.func90.trans (congrArg some (by kernel_rfl))⟩
  f21 := ⟨Tryz.f91.name, by decide, Tryz.func91.trans (congrArg some (by kernel_rfl))⟩
  f22 := ⟨Tryz.f92.name, by decide, Tryz.func92.trans (congrArg some (by kernel_rfl))⟩
  f23 := ⟨Tryz.f93.name, by decide, Tryz.func93.trans (congrArg some (by kernel_rfl))⟩
  f24 := ⟨Tryz.f94.name, by decide, Tryz.func94.trans (congrArg some (by kernel_rfl))⟩
  f25 := ⟨Tryz.f95.name, by decide, Tryz.func95.trans (congrArg some (by kernel_rfl))⟩
  f26 := ⟨Tryz.f96.name, by decide, Tryz.func96.trans (congrArg some (by kernel_rfl))⟩
  f27 := ⟨Tryz.f97.name, by decide, Tryz.func97.trans (congrArg some (by kernel_rfl))⟩
  f28 := Tryz.func98.trans (congrArg some (by kernel_rfl))
  f29 := Tryz.func99.trans (congrArg some (by kernel_rfl))
  f46 := ⟨Tryz.f110.name, by decide, Tryz.func110.trans (congrArg some (by kernel_rfl))⟩
  f47 := Tryz.func111.trans (congrArg some (by kernel_rfl))
  f48 := Tryz.func112.trans (congrArg some (by kernel_rfl))
  f49 := ⟨Tryz.f113.name, by decide, Tryz.func113.trans (congrArg some (by kernel_rfl))⟩
  f50 := ⟨Tryz.f114.name, by decide, Tryz.func114.trans (congrArg some (by kernel_rfl))⟩
  f57 := ⟨Tryz.f118.name, by decide, Tryz.func118.trans (congrArg some (by kernel_rfl))⟩
  t0 := Tryz.underlying0
  a0 := Tryz.isAgg0
  z0 := Tryz.sizeOf0
  v0 := Tryz.zeroValue0
  t3 := Tryz.underlying3
  a3 := Tryz.isAgg3
  z3 := Tryz.sizeOf3
  v3 := Tryz.zeroValue3
  t4 := Tryz.underlying4
  a4 := Tryz.isAgg4
  z4 := Tryz.sizeOf4
  v4 := Tryz.zeroValue4
  t5 := Tryz.underlying5
  a5 := Tryz.isAgg5
  z5 := Tryz.sizeOf5
  v5 := Tryz.zeroValue5
  t9 := Tryz.underlying9
  a9 := Tryz.isAgg9
  z9 := Tryz.sizeOf9
  v9 := Tryz.zeroValue9
  t22 := Tryz.underlying23
  a22 := Tryz.isAgg23
  z22 := Tryz.sizeOf23
  v22 := Tryz.zeroValue23
  t25 := Tryz.underlying105
  a25 := Tryz.isAgg105
  z25 := Tryz.sizeOf105
  v25 := Tryz.zeroValue105
  t39 := Tryz.underlying118
  a39 := Tryz.isAgg118
  z39 := Tryz.sizeOf118
  v39 := Tryz.zeroValue118
  t45 := Tryz.underlying134
  a45 := Tryz.isAgg134
  z45 := Tryz.sizeOf134
  v45 := Tryz.zeroValue134
  t46 := Tryz.underlying135
  a46 := Tryz.isAgg135
  z46 := Tryz.sizeOf135
  v46 := Tryz.zeroValue135
  t50 := Tryz.underlying139
  a50 := Tryz.isAgg139
  z50 := Tryz.sizeOf139
  v50 := Tryz.zeroValue139
  t53 := Tryz.underlying58
  a53 := Tryz.isAgg58
  z53 := Tryz.sizeOf58
  v53 := Tryz.zeroValue58
  t55 := Tryz.underlying143
  a55 := Tryz.isAgg143
  z55 := Tryz.sizeOf143
  v55 := Tryz.zeroValue143
  t66 := Tryz.underlying149
  a66 := Tryz.isAgg149
  z66 := Tryz.sizeOf149
  v66 := Tryz.zeroValue149
  t70 := Tryz.underlying153
  a70 := Tryz.isAgg153
  z70 := Tryz.sizeOf153
  v70 := Tryz.zeroValue153
  t76 := Tryz.underlying157
  a76 := Tryz.isAgg157
  z76 := Tryz.sizeOf157
  v76 := Tryz.zeroValue157
  t77 := Tryz.underlying158
  a77 := Tryz.isAgg158
  z77 := Tryz.sizeOf158
  v77 := Tryz.zeroValue158 }
def laySortC_ren : Go.Shelf.Ren := ⟨fun | 6 => 65 | 15 => 78 | 14 => 83 | 28 => 98 | 29 => 99 | 20 => 102 | 21 => 103 | 22 => 104 | 23 => 105 | 24 => 106 | 25 => 107 | 26 => 108 | 27 => 109 | 46 => 115 | 47 => 111 | 48 => 112 | 49 => 116 | 50 => 117 | 57 => 119 | n => n, fun | 22 => 24 | 24 => 62 | 25 => 93 | 3 => 3 | 39 => 118 | 0 => 0 | 53 => 58 | 55 => 143 | 4 => 4 | 46 => 135 | 45 => 134 | 50 => 139 | 5 => 5 | 9 => 9 | 66 => 149 | 70 => 153 | 76 => 157 | 77 => 158 | n => n, fun | n => n⟩
theorem laySortC : Go.Proofs.SlLaysF0.n6 Tryz.prog laySortC_ren := {
  mixed := by kernel_rfl
  f6 := ⟨Tryz.f65.name, by decide, Tryz.func65.trans (congrArg some (by kernel_rfl))⟩
  f14 := ⟨Tryz.f83.name, by decide, Tryz.func83.trans (congrArg some (by kernel_rfl))⟩
  f15 := Tryz.func78.trans (congrArg some (by kernel_rfl))
  f20 := ⟨Tryz.f102.name, by decide, Tryz.func102.trans (congrArg some (by kernel_rfl))⟩
  f21 := ⟨Tryz.f103.name, by decide, Tryz.func103.trans (congrArg some (by kernel_rfl))⟩
  f22 := ⟨Tryz.f104.name, by decide, Tryz.func104.trans (congrArg some (by kernel_rfl))⟩
  f23 := ⟨Tryz.f105.name, by decide, Tryz.func105.trans (congrArg some (by kernel_rfl))⟩
  f24 := ⟨Tryz.f106.name, by decide, Tryz.func106.trans (congrArg some (by kernel_rfl))⟩
  f25 := ⟨Tryz.f107.name, by decide, Tryz.func107.trans (congrArg some (by kernel_rfl))⟩
  f26 := ⟨Tryz.f108.name, by decide, Tryz.func108.trans (congrArg some (by kernel_rfl))⟩
  f27 := ⟨Tryz.f109.name, by decide, Tryz.func109.trans (congrArg some (by kernel_rfl))⟩
  f28 := Tryz.func98.trans (congrArg some (by kernel_rfl))
  f29 := Tryz.func99.trans (congrArg some (by kernel_rfl))
  f46 := ⟨Tryz.f115.name, by decide, Tryz.func115.trans (congrArg some (by kernel_rfl))⟩
  f47 := Tryz.func111.trans (congrArg some (by kernel_rfl))
  f48 := Tryz.func112.trans (congrArg some (by kernel_rfl))
  f49 := ⟨Tryz.f116.name, by decide, Tryz.func116.trans (congrArg some (by kernel_rfl))⟩
  f50 := ⟨Tryz.f117.name, by decide, Tryz.func117.trans (congrArg some (by kernel_rfl))⟩
  f57 := ⟨Tryz.f119.name, by decide, Tryz.func119.trans (congrArg some (by kernel_rfl))⟩
  t0 := Tryz.underlying0
  a0 := Tryz.isAgg0
  z0 := Tryz.sizeOf0
  v0 := Tryz.zeroValue0
  t3 := Tryz.underlying3
  a3 := Tryz.isAgg3
  z3 := Tryz.sizeOf3
  v3 := Tryz.zeroValue3
  t4 := Tryz.underlying4
  a4 := Tryz.isAgg4
  z4 := Tryz.sizeOf4
  v4 := Tryz.zeroValue4
  t5 := Tryz.underlying5
  a5 := Tryz.isAgg5
  z5 := Tryz.sizeOf5
  v5 := Tryz.zeroValue5
  t9 := Tryz.underlying9
  a9 := Tryz.isAgg9
  z9 := Tryz.sizeOf9
  v9 := Tryz.zeroValue9
  t22 := Tryz.underlying24
  a22 := Tryz.isAgg24
  z22 := Tryz.sizeOf24
  v22 := Tryz.zeroValue24
  t25 := Tryz.underlying93
  a25 := Tryz.isAgg93
  z25 := Tryz.sizeOf93
  v25 := Tryz.zeroValue93
  t39 := Tryz.underlying118
  a39 := Tryz.isAgg118
  z39 := Tryz.sizeOf118
  v39 := Tryz.zeroValue118
  t45 := Tryz.underlying134
  a45 := Tryz.isAgg134
  z45 := Tryz.sizeOf134
  v45 := Tryz.zeroValue134
  t46 := Tryz.underlying135
  a46 := Tryz.isAgg135
  z46 := Tryz.sizeOf135
  v46 := Tryz.zeroValue135
  t50 := Tryz.underlying139
  a50 := Tryz.isAgg139
  z50 := Tryz.sizeOf139
  v50 := Tryz.zeroValue139
  t53 := Tryz.underlying58
  a53 := Tryz.isAgg58
  z53 := Tryz.sizeOf58
  v53 := Tryz.zeroValue58
  t55 := Tryz.underlying143
  a55 := Tryz.isAgg143
  z55 := Tryz.sizeOf143
  v55 := Tryz.zeroValue143
  t66 := Tryz.underlying149
  a66 := Tryz.isAgg149
  z66 := Tryz.sizeOf149
  v66 := Tryz.zeroValue149
  t70 := Tryz.underlying153
  a70 := Tryz.isAgg153
  z70 := Tryz.sizeOf153
  v70 := Tryz.zeroValue153
  t76 := Tryz.underlying157
  a76 := Tryz.isAgg157
  z76 := Tryz.sizeOf157
  v76 := Tryz.zeroValue157
  t77 := Tryz.underlying158
  a77 := Tryz.isAgg158
  z77 := Tryz.sizeOf158
  v77 := Tryz.zeroValue158 }
end Go.Proofs.YtcelmhkpcdhneaaGreat
namespace Go.Proofs.YtcelmhkpcdhneaaGreat
open Go.Own
theorem cmp3_anti (a b : Int) : cmp3 b a = - cmp3 a b := by unfold cmp3; split <;> split <;> (try split) <;> omega
theorem cmp3_zero {a b : Int} : cmp3 a b = 0 ↔ a = b := by unfold cmp3; split <;> (try split) <;> constructor <;> intro h <;> omega
theorem cmp3_lt {a b : Int} : cmp3 a b < 0 ↔ a < b := by unfold cmp3; split <;> (try split) <;> constructor <;> intro h <;> omega
theorem cmpL_anti : ∀ xs ys : List Int, cmpL ys xs = - cmpL xs ys
  | [], [] => rfl
  | [], _ :: _ => rfl
  | _ :: _, [] => rfl
  | x :: xs, y :: ys => by
    simp only [cmpL]
    rw [cmp3_anti x y, cmpL_anti xs ys]
    by_cases h : cmp3 x y = 0
    · simp [h]
    · rw [if_pos h, if_pos (by omega)]
theorem cmpL_eq : ∀ {xs ys : List Int}, xs.length = ys.length → cmpL xs ys = 0 → xs = ys
  | [], [], _, _ => rfl
  | x :: xs, y :: ys, hl, h => by
    simp only [cmpL] at h
    by_cases h0 : cmp3 x y = 0
    · rw [if_neg (by omega)] at h
      rw [cmp3_zero.1 h0, cmpL_eq (by simpa using hl) h]
    · rw [if_pos h0] at h; exact absurd h h0
  | [], _ :: _, hl, _ => by simp at hl
  | _ :: _, [], hl, _ => by simp at hl
theorem cmpL_trans : ∀ {xs ys zs : List Int}, xs.length = ys.length → ys.length = zs.length → cmpL xs ys < 0 → cmpL ys zs < 0 → cmpL xs zs < 0
  | x :: xs, y :: ys, z :: zs, h1, h2, ha, hb => by
    simp only [cmpL] at ha hb ⊢
    by_cases h3 : cmp3 x y = 0
    · have e := cmp3_zero.1 h3
      subst e
      rw [if_neg (by omega)] at ha
      by_cases h4 : cmp3 x z = 0
      · rw [if_neg (by omega)] at hb ⊢
        exact cmpL_trans (by simpa using h1) (by simpa using h2) ha hb
      · rw [if_pos h4] at hb ⊢; exact hb
    · rw [if_pos h3] at ha
      have l1 := cmp3_lt.1 ha
      by_cases h4 : cmp3 y z = 0
      · have e := cmp3_zero.1 h4
        subst e
        rw [if_pos h3]; exact ha
      · rw [if_pos h4] at hb
        have l2 := cmp3_lt.1 hb
        have l3 : cmp3 x z < 0 := cmp3_lt.2 (by omega)
        rw [if_pos (by omega)]; exact l3
  | [], [], _, _, _, ha, _ => by simp [cmpL] at ha
  | [], _ :: _, _, h1, _, _, _ => by simp at h1
  | _ :: _, [], _, h1, _, _, _ => by simp at h1
  | _ :: _, _ :: _, [], _, h2, _, _ => by simp at h2
theorem cmpC_anti (a b : Cl) : cmpC b a = - cmpC a b := cmpL_anti _ _
theorem cmpC_eq {a b : Cl} (h : cmpC a b = 0) : a = b := clI_inj.1 (cmpL_eq rfl h)
theorem cmpC_trans {a b c : Cl} (h1 : cmpC a b < 0) (h2 : cmpC b c < 0) : cmpC a c < 0 := cmpL_trans (xs := clI a) (ys := clI b) (zs := clI c) rfl rfl h1 h2
def LtA (x : Cl) (l : List Cl) : Prop := ∀ y ∈ l, cmpC x y < 0
theorem Asc.tail {x : Cl} {l : List Cl} (h : Asc (x :: l)) : Asc l := by
  cases l with
  | nil => trivial
  | cons y r => exact h.2
theorem Asc.head {x : Cl} {l : List Cl} (h : Asc (x :: l)) : LtA x l := by
  induction l generalizing x with
  | nil => intro y hy; cases hy
  | cons y r ih =>
    intro z hz
    rcases List.mem_cons.1 hz with rfl | hz
    · exact h.1
    · exact cmpC_trans h.1 (ih h.2 z hz)
theorem Asc.cons {x : Cl} {l : List Cl} (h : LtA x l) (ha : Asc l) : Asc (x :: l) := by
  cases l with
  | nil => trivial
  | cons y r => exact ⟨h y (List.mem_cons_self ..), ha⟩
theorem LtA.not {x : Cl} {l : List Cl} (h : LtA x l) : x ∉ l := fun hx => by have := h x hx; rw [cmpC_self] at this; omega
theorem Asc.ext : ∀ {l m : List Cl}, Asc l → Asc m → (∀ x, x ∈ l ↔ x ∈ m) → l = m
  | [], [], _, _, _ => rfl
  | [], y :: m, _, _, h => by have := (h y).2 (List.mem_cons_self ..); cases this
  | x :: l, [], _, _, h => by have := (h x).1 (List.mem_cons_self ..); cases this
  | x :: l, y :: m, hl, hm, h => by
    have e : x = y := by
      rcases List.mem_cons.1 ((h x).1 (List.mem_cons_self ..)) with e | e
      · exact e
      · rcases List.mem_cons.1 ((h y).2 (List.mem_cons_self ..)) with e' | e'
        · exact e'.symm
        · have h1 := hm.head x e
          have h2 := hl.head y e'
          rw [cmpC_anti y x] at h2
          omega
    subst e
    rw [Asc.ext hl.tail hm.tail (fun z => ⟨fun hz => by
      rcases List.mem_cons.1 ((h z).1 (List.mem_cons_of_mem _ hz)) with rfl | h1
      · exact absurd hz hl.head.not
      · exact h1, fun hz => by
      rcases List.mem_cons.1 ((h z).2 (List.mem_cons_of_mem _ hz)) with rfl | h1
      · exact absurd hz hm.head.not
      · exact h1⟩)]
theorem wo_mem_of {l o : List Cl} {x : Cl} (h : x ∈ wo l o) : x ∈ l := by
  induction l, o using wo.induct with
  | case1 o => rw [wo_nil] at h; cases h
  | case2 y ys ih =>
    rw [wo_end] at h
    rcases List.mem_cons.1 h with rfl | h
    · exact List.mem_cons_self ..
    · exact List.mem_cons_of_mem _ (ih h)
  | case3 a xs b ys hc ih =>
    rw [ZU, if_pos hc] at h
    rcases List.mem_cons.1 h with rfl | h
    · exact List.mem_cons_self ..
    · exact List.mem_cons_of_mem _ (ih h)
  | case4 a xs b ys h1 h2 ih => rw [ZU, if_neg h1, if_pos h2] at h; exact ih h
  | case5 a xs b ys h1 h2 ih => rw [ZU, if_neg h1, if_neg h2] at h; exact List.mem_cons_of_mem _ (ih h)
theorem wo_mem {l o : List Cl} (hl : Asc l) (ho : Asc o) (x : Cl) : x ∈ wo l o ↔ x ∈ l ∧ x ∉ o := by
  induction l, o using wo.induct with
  | case1 o => rw [wo_nil]; simp
  | case2 y ys ih =>
    rw [wo_end, List.mem_cons, ih hl.tail ho]; simp
  | case3 a xs b ys hc ih =>
    have ha : a ∉ b :: ys := (show LtA a (b :: ys) from fun z hz => by
      rcases List.mem_cons.1 hz with rfl | hz
      · exact hc
      · exact cmpC_trans hc (ho.head z hz)).not
    rw [ZU, if_pos hc, List.mem_cons, ih hl.tail ho]
    constructor
    · rintro (rfl | ⟨h1, h2⟩)
      · exact ⟨List.mem_cons_self .., ha⟩
      · exact ⟨List.mem_cons_of_mem _ h1, h2⟩
    · rintro ⟨h1, h2⟩
      rcases List.mem_cons.1 h1 with rfl | h1
      · exact .inl rfl
      · exact .inr ⟨h1, h2⟩
  | case4 a xs b ys h1 h2 ih =>
    rw [ZU, if_neg h1, if_pos h2, ih hl ho.tail]
    have hb : b ∉ a :: xs := (show LtA b (a :: xs) from fun z hz => by
      have hba : cmpC b a < 0 := by rw [cmpC_anti a b]; omega
      rcases List.mem_cons.1 hz with rfl | hz
      · exact hba
      · exact cmpC_trans hba (hl.head z hz)).not
    constructor
    · rintro ⟨h3, h4⟩
      exact ⟨h3, fun h5 => by
        rcases List.mem_cons.1 h5 with rfl | h5
        · exact hb h3
        · exact h4 h5⟩
    · rintro ⟨h3, h4⟩
      exact ⟨h3, fun h5 => h4 (List.mem_cons_of_mem _ h5)⟩
  | case5 a xs b ys h1 h2 ih =>
    have e : a = b := cmpC_eq (by omega)
    subst e
    rw [ZU, if_neg h1, if_neg h2, ih hl.tail ho]
    constructor
    · rintro ⟨h3, h4⟩
      exact ⟨List.mem_cons_of_mem _ h3, h4⟩
    · rintro ⟨h3, h4⟩
      rcases List.mem_cons.1 h3 with rfl | h3
      · exact absurd (List.mem_cons_self ..) h4
      · exact ⟨h3, h4⟩
theorem wo_asc {l o : List Cl} (hl : Asc l) : Asc (wo l o) := by
  induction l, o using wo.induct with
  | case1 o => rw [wo_nil]; trivial
  | case2 y ys ih => rw [wo_end]; exact Asc.cons (fun z hz => hl.head z (wo_mem_of hz)) (ih hl.tail)
  | case3 a xs b ys hc ih => rw [ZU, if_pos hc]; exact Asc.cons (fun z hz => hl.head z (wo_mem_of hz)) (ih hl.tail)
  | case4 a xs b ys h1 h2 ih => rw [ZU, if_neg h1, if_pos h2]; exact ih hl
  | case5 a xs b ys h1 h2 ih => rw [ZU, if_neg h1, if_neg h2]; exact ih hl.tail
theorem wo_len (l o : List Cl) : (wo l o).length ≤ l.length := by
  induction l, o using wo.induct with
  | case1 o => rw [wo_nil]; exact Nat.le_refl _
  | case2 y ys ih => rw [wo_end]; simp; exact ih
  | case3 a xs b ys hc ih => rw [ZU, if_pos hc]; simp; exact ih
  | case4 a xs b ys h1 h2 ih => rw [ZU, if_neg h1, if_pos h2]; exact ih
  | case5 a xs b ys h1 h2 ih => rw [ZU, if_neg h1, if_neg h2]; simp; omega
end Go.Proofs.YtcelmhkpcdhneaaGreat
namespace Go.Proofs.YtcelmhkpcdhneaaGreat
open Go.Own Go.Limbs Go.Shelf
open Go.Sort hiding Ok
attribute [local irreducible] St Ops Go.Own.Fin Ok OkB OkN OkT OkL OkF
theorem ordC : Ord cmpC := ⟨cmpC_anti, fun _ _ h => cmpC_eq h, fun _ _ _ => cmpC_trans⟩
theorem ordR : Ord cmpR := ⟨fun _ _ => cmpL_anti _ _, fun _ _ h => rsO_inj (cmpL_eq rfl h), fun x y z h1 h2 => cmpL_trans (xs := rsO x) (ys := rsO y) (zs := rsO z) rfl rfl h1 h2⟩
def clV (c : Cl) : List Value := [.int .i64 c.k, .int .u32 c.a, .int .u32 c.b, .int .i64 c.lo, .int .i64 c.hi, .int .i64 c.t, .int .i64 c.s]
instance : Inhabited Cl := ⟨c0⟩
abbrev cmpRV : CT := .ex (.func (.func 60) #[] #[])
theorem goSortR : InGo Tryz.prog 59 := InGo.of Tryz.func59 rfl (by decide)
theorem SortR_ok (l : List Rs) (hl : l.length < 4611686018427387904) : OkL Tryz.prog 59 77 17 (rss l) [cmpRV] unitC (rss (l.mergeSort fun x y => !(ltOf cmpR) y x)) :=
  sortFunc_L laySortR (enc := rsV) (k := 17) (cf := cmpR) (g := 60) (by decide) Tryz.isAgg77 Tryz.sizeOf77 (fun _ => rfl) (fun x v hv => by
    simp only [rsV, List.mem_cons, List.not_mem_nil, or_false] at hv
    rcases hv with rfl | rfl | rfl | rfl | rfl | rfl | rfl | rfl | rfl | rfl | rfl | rfl | rfl | rfl | rfl | rfl | rfl <;> rfl)
    ordR.swo ordR.tot goCmpR cmpR_ok 77 l hl
theorem SortC_ok (l : List Cl) (hl : l.length < 4611686018427387904) : OkL Tryz.prog 65 62 7 (cls l) [cmpV] unitC (cls (l.mergeSort fun x y => !(ltOf cmpC) y x)) :=
  sortFunc_L laySortC (enc := clV) (k := 7) (cf := cmpC) (g := 42) (by decide) Tryz.isAgg62 Tryz.sizeOf62 (fun _ => rfl) (fun x v hv => by
    simp only [clV, List.mem_cons, List.not_mem_nil, or_false] at hv
    rcases hv with rfl | rfl | rfl | rfl | rfl | rfl | rfl <;> rfl)
    ordC.swo ordC.tot goACmp ACmp_ok 62 l hl
theorem rss_snoc (l : List Rs) (r : Rs) : rss (l ++ [r]) = rss l ++ rsCs r := by simp [rss]
theorem filter_take {α : Type} (p : α → Bool) {l : List α} {z : α} {i : Nat} (h : i < l.length) : (l.take (i + 1)).filter p = if p (l.getD i z) = true then (l.take i).filter p ++ [l.getD i z] else (l.take i).filter p := by
  have e : l.take (i + 1) = l.take i ++ [l.getD i z] := by
    rw [List.take_add_one, List.getElem?_eq_getElem h, List.getD_eq_getElem?_getD, List.getElem?_eq_getElem h]; rfl
  rw [e, List.filter_append]
  by_cases hp : p (l.getD i z) = true
  · rw [if_pos hp, List.filter_cons_of_pos hp]; rfl
  · rw [if_neg hp, List.filter_cons_of_neg hp]; simp
theorem filter_len {α : Type} (p : α → Bool) (l : List α) (i : Nat) : ((l.take i).filter p).length ≤ i := Nat.le_trans (List.length_filter_le _ _) (by rw [List.length_take]; omega)
theorem goOrder : InGo Tryz.prog 34 := InGo.of Tryz.func34 rfl (by decide)
set_option maxHeartbeats 4000000 in
theorem Order_ok (l : List Rs) (hl : l.length ≤ 10000) : OkF Tryz.prog 34 [rssC l] 77 17 (rss (sd cmpR (l.filter okR))) := by
  refine OkF.enter Tryz.func34 rfl _ Tryz.ntmps34 rfl ?_
  intro S w
  (refine Qw (Qx fun K hK => ?_); refine Qy rfl rfl rfl ?_; refine Qv (hK _ _ (Qq (Qw ?_))); clear hK K; refine Qx (fun K hK => ?_); refine Qy rfl rfl rfl ?_; refine Qv (hK _ _ (Qq (Qw (Qw ?_)))); clear hK K; refine Qx (fun K hK => ?_); refine Qz rfl rfl rfl ?_; refine Qd rfl rfl (by with_reducible exact sRes.und) (List.length_map ..) rfl ?_; refine Qz rfl rfl rfl ?_; refine Qv (hK _ _ (Qq (Q4 ?_))); clear hK K)
  refine Zf 3 0 77 17 rfl rfl rfl ?_
  refine Qt (α := Nat) (fun i => i ≤ l.length)
    (fun i => [(3, .own 0), (6, .ct (rssC l)), (7, .ct (intC l.length)), (8, .ct (intC i))]) (fun i => [(0, .row 77 17 (rss ((l.take i).filter okR)))]) (fun i => l.length - i) 0 (Nat.zero_le _) (by exact QK rfl ⟨rfl, rfl, rfl, rfl, trivial⟩) ?_
  intro i hi
  try dsimp only at hi
  try dsimp only
  (refine Qw (Qx fun K hK => ?_); refine Qk ilss rfl rfl rfl rfl ?_; refine Qv (hK _ _ (Qq (Qw ?_))); clear hK K)
  refine Q7 rfl (fun h => ?_) (fun h => ?_)
  · have e2 : (i : Int).toNat = i := Int.toNat_natCast i
    have hs := filter_take okR (z := rs0) (i := i) (l := l) (by omega)
    have hfl := filter_len okR l i
    (refine Q5 (Qq (Qw (Q4 (Qw (Qx fun K hK => ?_))))); refine Ql rfl rfl rfl (by with_reducible exact sRes) (by omega) (Yq (by omega) (by omega)) rfl ?_; refine Qs (n := 17) rfl rfl rfl (by with_reducible exact lRes) rfl rfl ?_; refine Qo 1 rfl rfl (by with_reducible exact zvRes) rfl rfl rfl ?_; refine Qr 17 rfl rfl rfl rfl rfl (by with_reducible exact szRes) rfl rfl ?_; refine Qv (hK _ _ (Qq (Qw ?_))); clear hK K; refine Qx (fun K hK => ?_); refine Qm (n := 17) rfl rfl rfl rfl rfl (by with_reducible exact lRes) rfl ?_)
    rw [e2]
    generalize l.getD i rs0 = c at hs
    skip
    refine Ops.callF goValidR rfl (ValidR_ok c) rfl rfl rfl rfl ?_
    (refine Qv (hK _ _ (Qq ?_)); clear hK K)
    refine X5 rfl (fun h2 => ?_) (fun h2 => ?_)
    · rw [if_pos h2] at hs
      (refine Qx (fun K hK => ?_); refine Qz rfl rfl rfl ?_; refine Qm (n := 17) rfl rfl rfl rfl rfl (by with_reducible exact lRes) rfl ?_)
      generalize (l.take i).filter okR = out at hs hfl ⊢
      refine Xm (n := 17) rfl rfl (by with_reducible exact sRes) rfl rfl (by decide) rfl ?_
      refine Xk out.length (rss (out ++ [c])) rfl rfl rfl rfl (by with_reducible exact sRes) (Xw out) rfl (by omega) (by omega) (rss_snoc out c) rfl ?_
      (refine Qy rfl rfl rfl ?_; refine Qv (hK _ _ (Qq ?_)); clear hK K; refine Qx (fun K hK => ?_); refine Qk (iadd (by omega) (by omega)) rfl rfl rfl rfl ?_; refine Qz rfl rfl rfl ?_; refine Qv (hK _ _ (Qa ?_)); clear hK K)
      refine X7 1 ?_
      refine Qg (i + 1) (by omega) (by omega) (by rw [hs]; exact QK rfl ⟨rfl, rfl, rfl, by simp only [Int.natCast_add]; rfl, trivial⟩)
    · rw [if_neg (by rw [h2]; decide)] at hs
      (refine Q5 (Qq (Qx fun K hK => ?_)); refine Qk (iadd (by omega) (by omega)) rfl rfl rfl rfl ?_; refine Qz rfl rfl rfl ?_; refine Qv (hK _ _ (Qa ?_)); clear hK K)
      refine X7 1 ?_
      refine Qg (i + 1) (by omega) (by omega) (by rw [hs]; exact QK rfl ⟨rfl, rfl, rfl, by simp only [Int.natCast_add]; rfl, trivial⟩)
  · have hi' : i = l.length := by omega
    rw [hi', List.take_length]
    have hfl : (l.filter okR).length ≤ l.length := List.length_filter_le _ _
    generalize l.filter okR = m at hfl ⊢
    (refine Qh (Qq (Qw (Qx fun K hK => ?_))); refine Qz rfl rfl rfl ?_)
    refine Ops.callL goSortR (SortR_ok m (by omega)) rfl rfl rfl rfl rfl ?_
    (refine Qv (hK _ _ (Qq (Qw ?_))); clear hK K; refine Qx (fun K hK => ?_); refine Qz rfl rfl rfl ?_)
    refine Yz goCompact_Rs (Compact_Rs_ok _ (by rw [List.length_mergeSort]; omega)) rfl rfl rfl rfl rfl ?_
    (refine Qy rfl rfl rfl ?_; refine Qv (hK _ _ (Qq (Q0 ?_))); clear hK K)
    refine Fin.retF rfl rfl rfl rfl
end Go.Proofs.YtcelmhkpcdhneaaGreat
namespace Go.Own
open Go.RowKit
variable {X : Ctx} {L : AL} {B : BL} {ops : Array Oper} {K : Act → World → Prop} {r : Pl} {k : Kd}
  {x y z : Operand} {d : Nat} {t t2 t' : TypeId} {pos : String} {af : Array Edge} {g : Option (Nat × Bool)}
abbrev SofB (X : Ctx) (B : BL) (ρ : Nat → Value) (i : Nat) : BSet := fun k => Sof X B ρ k ∨ blk (ρ i) = some k
theorem SofB_kp {ρ : Nat → Value} {w : World} (i : Nat) : Kp (Sof X B ρ) (SofB X B ρ i) w w := ⟨Nat.le_refl _, fun _ _ hk => ⟨.inl hk, rfl⟩⟩
theorem Is.readR {a : Act} {ρ : Nat → Value} {w : World} (hI : Is X L B a ρ w) {i : Nat} {e : Ent} {T : Ty} (hi : bget B i = some e) (hT : e.frozen T) : T.p (SofB X B ρ i) w (ρ i) :=
  Ent.frozen_p hT (Ent.keep (SofB_kp i) (fun _ _ _ => rfl) (hI.ent i _ hi).1) (fun _ hg => .inr hg)
theorem evB_of {a : Act} {ρ : Nat → Value} {w : World} (hI : Is X L B a ρ w) {c : CT} (i : Nat) (hx : ev L x = some (.ct c)) : c.p (SofB X B ρ i) w (a.eval x) := CT.mono (SofB_kp i) (hI.ev hx)
theorem Ops.callRR {f : FuncId} {args : List Operand} {tys : Array TypeId} {As : List CT} {u : Value} (i : Nat) (hgo : InGo X.P f) (hok : Ok X.P f As (.ex u)) (hg : gd ops L g = some true) (hargs : ∀ a ρ w, Is X L B a ρ w → cells (SofB X B ρ i) w As (args.map a.eval)) (hk : k.mk = true) (hn : Nat.blt d X.n = true)
    (h : Ops X ops r ((d, .ct (.ex u)) :: L) B K) : Ops X ops (.cons ⟨some d, .call { callee := .value (.func f), args := args.toArray, argTypes := tys }, t, pos, af, g⟩ k r) L B K := fun a ρ w hI => by
  refine wpX_makes k hk ?_
  unfold wpO
  rw [if_pos (Xo (o := ⟨some d, _, t, pos, af, g⟩) hI hg)]
  unfold Oper.wp
  have hrun : (execOp a.eval ⟨some d, .call { callee := .value (.func f), args := args.toArray, argTypes := tys }, t, pos, af, g⟩).run X.P w = .ok (.enter f (args.map a.eval).toArray) w := by
    show (do let D ← resolve a.eval { callee := .value (.func f), args := args.toArray, argTypes := tys } t; invoke D.target D.args : Sem Next).run X.P w = _
    have hf : a.eval (.func f) = .func (.func f) #[] #[] := rfl
    simp only [resolve, hf, Deferred.ofValue, Sem.run_bind, Sem.run_pure, Result.andThen_ok, invoke]
    rw [hgo]
    congr 2
    simp
  rw [hrun]
  refine Calls.mono (hok (SofB X B ρ i) w _ (fun k hk => .inl (hI.freshS k hk)) (hargs a ρ w hI)) ?_
  rintro e w' ⟨v, rfl, hv, hb⟩
  exact ⟨hb, h _ ρ w' ((hI.below hb).put (s := .ct (.ex u)) (X2 hn) hv)⟩
end Go.Own
namespace Go.Proofs.YtcelmhkpcdhneaaGreat
open Go.Own Go.Limbs
attribute [local irreducible] St Ops Go.Own.Fin Ok OkB OkN OkT OkL OkF
def idxQ {α : Type} (p : α → Bool) (xs : List α) : Int := if xs.any p then (xs.findIdx p : Nat) else -1
theorem idxQ_hit {α : Type} {p : α → Bool} {xs : List α} {z : α} {i : Nat} (h : i < xs.length) (hp : p (xs.getD i z) = true) (hn : ∀ j, j < i → p (xs.getD j z) = false) : idxQ p xs = i := by
  have e : ∀ j (hj : j < xs.length), xs.getD j z = xs[j] := fun j hj => by simp [List.getD_eq_getElem?_getD, List.getElem?_eq_getElem hj]
  unfold idxQ
  rw [if_pos (List.any_eq_true.mpr ⟨xs[i], List.getElem_mem h, by rw [← e i h]; exact hp⟩)]
  congr 1
  rw [List.findIdx_eq h]
  exact ⟨by rw [← e i h]; exact hp, fun j hj => by rw [← e j (by omega)]; exact hn j hj⟩
theorem idxQ_miss {α : Type} {p : α → Bool} {xs : List α} {z : α} (hn : ∀ j, j < xs.length → p (xs.getD j z) = false) : idxQ p xs = -1 := by
  have e : ∀ j (hj : j < xs.length), xs.getD j z = xs[j] := fun j hj => by simp [List.getD_eq_getElem?_getD, List.getElem?_eq_getElem hj]
  unfold idxQ
  rw [if_neg]
  rw [Bool.not_eq_true, List.any_eq_false]
  intro x hx
  obtain ⟨j, hj, rfl⟩ := List.getElem_of_mem hx
  rw [← e j hj, hn j hj]; decide
theorem idxQ_any {α : Type} (p : α → Bool) (xs : List α) : decide (0 ≤ idxQ p xs) = xs.any p := by
  unfold idxQ; split
  · rename_i h; rw [h]; simp
  · rename_i h; simp at h; rw [show decide ((0 : Int) ≤ -1) = false by decide]; symm; rw [List.any_eq_false]; simpa using h
theorem goIndexFunc_rs : InGo Tryz.prog 57 := InGo.of Tryz.func57 (by kernel_rfl) (by kernel_rfl)
set_option maxHeartbeats 2000000 in
theorem IndexFunc_rs (xs : List Rs) (f : FuncId) (caps : List CT) (p : Rs → Bool) (hgo : InGo Tryz.prog f) (hf : ∀ x, Ok Tryz.prog f ([rsC x] ++ caps) (boolC (p x))) (hl : xs.length ≤ 100000) : Ok Tryz.prog 57 [rssC xs, (.fr (closT f caps))] (intC (idxQ p xs)) := by
  refine Ok.enter Tryz.func57 rfl _ Tryz.ntmps57 rfl ?_
  intro S w
  (refine Qw (Qx fun K hK => ?_); refine Qy rfl rfl rfl ?_; refine Qv (hK _ _ (Qq (Qw (Qw ?_)))); clear hK K; refine Qx (fun K hK => ?_); refine Qz rfl rfl rfl ?_; refine Qd rfl rfl (by with_reducible exact sRes.und) (List.length_map ..) rfl ?_; refine Qz rfl rfl rfl ?_; refine Qv (hK _ _ (Qq (Q4 ?_))); clear hK K)
  refine Qt (α := Nat) (fun i => i ≤ xs.length ∧ ∀ j, j < i → p (xs.getD j rs0) = false)
    (fun i => [(0, .ct (rssC xs)), (1, .ct (.fr (closT f caps))), (7, .ct (intC xs.length)), (8, .ct (intC i))]) (fun _ => []) (fun i => xs.length - i) 0 ⟨Nat.zero_le _, fun j h => absurd h (Nat.not_lt_zero j)⟩ (by exact QK rfl ⟨rfl, rfl, rfl, rfl, trivial⟩) ?_
  intro i ⟨hi, hv⟩
  dsimp only
  (refine Qw (Qx fun K hK => ?_); refine Qk ilss rfl rfl rfl rfl ?_; refine Qv (hK _ _ (Qq (Qw ?_))); clear hK K)
  refine Q7 rfl (fun h => ?_) (fun h => ?_)
  · have e2 : (i : Int).toNat = i := Int.toNat_natCast i
    (refine Q5 (Qq (Qw (Q4 (Qw (Qx fun K hK => ?_))))); refine Qz rfl rfl rfl ?_; refine Qy rfl rfl rfl ?_; refine Qv (hK _ _ (Qq (Qw ?_))); clear hK K; refine Qx (fun K hK => ?_); refine Qz rfl rfl rfl ?_; refine Qz rfl rfl rfl ?_; refine Qz rfl rfl rfl ?_; refine Ql rfl rfl rfl (by with_reducible exact sRes) (by omega) (Yq (by omega) (by omega)) rfl ?_; refine Qs (n := 17) rfl rfl rfl (by with_reducible exact lRes) rfl rfl ?_)
    rw [e2]
    skip
    refine Ops.callC hgo rfl (hf _) rfl rfl rfl rfl ?_
    (refine Qv (hK _ _ (Qq ?_)); clear hK K)
    refine X5 rfl (fun h2 => ?_) (fun h2 => ?_)
    · (refine Qw (Qx fun K hK => ?_); refine Qz rfl rfl rfl ?_; refine Qy rfl rfl rfl ?_; refine Qv (hK _ _ (Qq (Q0 (Q6 (QV (QV (Q6 (QV ?_)))))))); clear hK K)
      refine Q1 [_] rfl (QJ rfl QX) (by rw [idxQ_hit (by omega) h2 hv]; rfl) rfl
    · (refine Q5 (Qq (Qx fun K hK => ?_)); refine Qk (iadd (by omega) (by omega)) rfl rfl rfl rfl ?_; refine Qz rfl rfl rfl ?_; refine Qv (hK _ _ (Qa ?_)); clear hK K)
      refine Qg (i + 1) (by omega) ⟨by omega, ?_⟩ (by exact QK rfl ⟨rfl, rfl, rfl, by simp only [Int.natCast_add]; rfl, trivial⟩)
      intro j hj
      rcases Nat.lt_or_ge j i with h3 | h3
      · exact hv j h3
      · have : j = i := by omega
        rw [this]; exact h2
  · have hi' : i = xs.length := by omega
    (refine Qh (Qq (Qw (Qx fun K hK => ?_))); refine Qy rfl rfl rfl ?_; refine Qv (hK _ _ (Qq (Q0 ?_))); clear hK K)
    refine Q1 [_] rfl (QJ rfl QX) (by rw [idxQ_miss (fun j hj => hv j (by omega))]; rfl) rfl
theorem idxQ_first {α : Type} (p : α → Bool) (z : α) (l : List α) (h : idxQ p l ≠ -1) : ∃ i, i < l.length ∧ idxQ p l = (i : Int) ∧ p (l.getD i z) = true ∧ (l.take i).filter (fun x => !p x) = l.take i := by
  unfold idxQ at h ⊢
  split at h
  · rename_i ha
    rw [if_pos ha]
    have hlt : l.findIdx p < l.length := List.findIdx_lt_length_of_exists (by
      obtain ⟨x, hx, hp⟩ := List.any_eq_true.1 ha
      exact ⟨x, hx, hp⟩)
    refine ⟨_, hlt, rfl, ?_, ?_⟩
    · rw [List.getD_eq_getElem?_getD, List.getElem?_eq_getElem hlt]; exact List.findIdx_getElem
    · rw [List.filter_eq_self]
      intro x hx
      obtain ⟨j, hj, rfl⟩ := List.getElem_of_mem hx
      rw [List.length_take] at hj
      rw [List.getElem_take]
      have := List.not_of_lt_findIdx (p := p) (xs := l) (i := j) (by omega)
      rw [this]; rfl
  · exact absurd rfl h
theorem idxQ_none {α : Type} (p : α → Bool) (l : List α) (h : idxQ p l = -1) : l.filter (fun x => !p x) = l := by
  unfold idxQ at h
  split at h
  · omega
  · rename_i ha
    rw [List.filter_eq_self]
    intro x hx
    rw [Bool.not_eq_true, List.any_eq_false] at ha
    have := ha x hx
    rw [Bool.not_eq_true] at this
    rw [this]; rfl
theorem goDeleteFunc_rs : InGo Tryz.prog 33 := InGo.of Tryz.func33 (by kernel_rfl) (by kernel_rfl)
set_option maxHeartbeats 4000000 in
theorem DeleteFunc_rs (l : List Rs) (f : FuncId) (caps : List CT) (p : Rs → Bool) (hgo : InGo Tryz.prog f) (hf : ∀ x, Ok Tryz.prog f ([rsC x] ++ caps) (boolC (p x))) (hl : l.length ≤ 100000) : OkT Tryz.prog 33 77 17 (rss l) [(.fr (closT f caps))] (rss (l.filter fun x => !p x)) := by
  refine OkT.enter Tryz.func33 rfl _ Tryz.ntmps33 rfl ?_
  intro S w h0
  (refine Qw (Qx fun K hK => ?_); refine Qy rfl rfl rfl ?_; refine Qv (hK _ _ (Qq (Qw ?_))); clear hK K; refine Qx (fun K hK => ?_); refine Qz rfl rfl rfl ?_; refine Qz rfl rfl rfl ?_)
  refine Ops.callRR 0 goIndexFunc_rs (IndexFunc_rs l f caps p hgo hf hl) rfl (fun a ρ w hI => ?_) rfl rfl ?_
  · refine ⟨?_, evB_of hI 0 rfl, trivial⟩
    have h1 : a.eval (.tmp 8) = ρ 0 := hI.ev (x := .tmp 8) rfl
    show (rssC l).p _ w (a.eval (.tmp 8))
    rw [h1]
    exact hI.readR (i := 0) rfl (Zd _ l)
  (refine Qy rfl rfl rfl ?_; refine Qv (hK _ _ (Qq (Qw (Qw ?_)))); clear hK K; refine Qx (fun K hK => ?_); refine Qz rfl rfl rfl ?_; refine Qk ieql rfl rfl rfl rfl ?_; refine Qv (hK _ _ (Qq ?_)); clear hK K)
  refine Q7 rfl (fun h => ?_) (fun h => ?_)
  · (refine Qw (Qx fun K hK => ?_); refine Qz rfl rfl rfl ?_; refine Qy rfl rfl rfl ?_; refine Qv (hK _ _ (Qq (Q0 (QV ?_)))); clear hK K)
    refine Z1 rfl rfl (by rw [idxQ_none p l h]; rfl)
  obtain ⟨i, hi, hidx, hpi, hft⟩ := idxQ_first p rs0 l h
  clear h
  rw [hidx]
  have hs0 := filter_take (fun x => !p x) (l := l) (z := rs0) (i := i) hi
  rw [if_neg (by rw [hpi]; decide), hft] at hs0
  (refine Q5 (Qq (Qw (Qw (Qx fun K hK => ?_)))); refine Qz rfl rfl rfl ?_; refine Qk (iadd (by omega) (by omega)) rfl rfl rfl rfl ?_; refine Qy rfl rfl rfl ?_; refine Qv (hK _ _ (Qq (Q4 ?_))); clear hK K)
  refine Qt (α := Nat) (fun j => i + 1 + j ≤ l.length ∧ ((l.take (i + 1 + j)).filter fun x => !p x).length < i + 1 + j)
    (fun j => [(0, .own 0), (1, .ct (.fr (closT f caps))), (5, .ct (intC ((l.take (i + 1 + j)).filter fun x => !p x).length)), (6, .ct (intC (i + 1 + j)))])
    (fun j => [(0, .row 77 17 (rss (((l.take (i + 1 + j)).filter fun x => !p x) ++ l.drop ((l.take (i + 1 + j)).filter fun x => !p x).length)))]) (fun j => l.length - j) 0
    ⟨by omega, by rw [Nat.add_zero, hs0, List.length_take]; omega⟩ (by
      rw [Nat.add_zero, hs0, List.length_take, Nat.min_eq_left (Nat.le_of_lt hi), List.take_append_drop]
      exact QK rfl ⟨rfl, rfl, rfl, rfl, trivial⟩) ?_
  clear hs0
  rintro j ⟨hj, hD⟩
  try dsimp only at hj hD
  try dsimp only
  have hs := filter_take (fun x => !p x) (l := l) (z := rs0) (i := i + 1 + j)
  generalize hDD : (l.take (i + 1 + j)).filter (fun x => !p x) = D at hs hD ⊢
  have hrl : (D ++ l.drop D.length).length = l.length := by rw [List.length_append, List.length_drop]; omega
  have hat : ∀ q, D.length ≤ q → (D ++ l.drop D.length).getD q rs0 = l.getD q rs0 := fun q hq => row_at D l q rs0 hq
  have hcs : (rss (D ++ l.drop D.length)).length = l.length * 17 := by rw [Xw, hrl]
  (refine Qw (Qw (Qx fun K hK => ?_)); refine Qz rfl rfl rfl ?_; refine Qz rfl rfl rfl ?_)
  refine Zk l.length rfl rfl rfl (by decide) hcs (by with_reducible exact sRes.und) rfl ?_
  (refine Qk ilss rfl rfl rfl rfl ?_; refine Qv (hK _ _ (Qq ?_)); clear hK K)
  refine Q7 rfl (fun h2 => ?_) (fun h2 => ?_)
  · have hs := hs (by omega)
    (refine Q5 (Qq (Qw (Q4 (Qw (Qx fun K hK => ?_))))); refine Qz rfl rfl rfl ?_; refine Qz rfl rfl rfl ?_)
    refine XY l.length rfl rfl rfl hcs rfl (by with_reducible exact sRes) (by omega) (by omega) rfl ?_
    refine ldE rsCs rs0 Xs rfl rfl rfl rfl rfl (by omega) (by with_reducible exact lRes) rfl ?_
    rw [show ((i : Int) + 1 + j).toNat = i + 1 + j by omega, hat _ (by omega)]
    generalize l.getD (i + 1 + j) rs0 = c at hs ⊢
    refine Qo 1 rfl rfl (by with_reducible exact zvRes) rfl rfl rfl ?_
    (refine Qr 17 rfl rfl rfl rfl rfl (by with_reducible exact szRes) rfl rfl ?_; refine Qv (hK _ _ (Qq (Qw ?_))); clear hK K; refine Qx (fun K hK => ?_); refine Qz rfl rfl rfl ?_; refine Qm (n := 17) rfl rfl rfl rfl rfl (by with_reducible exact lRes) rfl ?_)
    refine Ops.callC hgo rfl (hf _) rfl rfl rfl rfl ?_
    (refine Qb rfl rfl rfl ?_; refine Qv (hK _ _ (Qq ?_)); clear hK K)
    refine X5 rfl (fun he => ?_) (fun he => ?_)
    · rw [if_pos he] at hs
      (refine Qw (Qx fun K hK => ?_); refine Qz rfl rfl rfl ?_; refine Qz rfl rfl rfl ?_; refine Qm (n := 17) rfl rfl rfl rfl rfl (by with_reducible exact lRes) rfl ?_)
      refine XY l.length rfl rfl rfl hcs rfl (by with_reducible exact sRes) (by omega) (by omega) rfl ?_
      refine stE rsCs c Xs rfl rfl rfl rfl rfl (by omega) (by with_reducible exact szRes) ?_
      rw [show ((D.length : Int)).toNat = D.length by omega, row_set D l c (by omega)]
      (refine Qv (hK _ _ (Qq ?_)); clear hK K; refine Qx (fun K hK => ?_); refine Qz rfl rfl rfl ?_; refine Qk (iadd (by omega) (by omega)) rfl rfl rfl rfl ?_; refine Qy rfl rfl rfl ?_; refine Qv (hK _ _ (Qq ?_)); clear hK K; refine Qx (fun K hK => ?_); refine Qz rfl rfl rfl ?_; refine Qk (iadd (by omega) (by omega)) rfl rfl rfl rfl ?_; refine Qy rfl rfl rfl ?_; refine Qv (hK _ _ (Qa ?_)); clear hK K)
      refine X7 1 ?_
      refine Qg (j + 1) (by omega) ⟨by omega, by show ((l.take (i + 1 + j + 1)).filter _).length < _; rw [hs, List.length_append]; show D.length + 1 < _; omega⟩ ?_
      rw [show i + 1 + (j + 1) = i + 1 + j + 1 by omega, hs, List.length_append]
      exact QK rfl ⟨rfl, rfl, by simp only [Int.natCast_add]; rfl, by simp only [Int.natCast_add, Int.add_assoc]; rfl, trivial⟩
    · rw [if_neg (by rw [he]; decide)] at hs
      (refine Q5 (Qq (Qx fun K hK => ?_)); refine Qz rfl rfl rfl ?_; refine Qk (iadd (by omega) (by omega)) rfl rfl rfl rfl ?_; refine Qy rfl rfl rfl ?_; refine Qv (hK _ _ (Qa ?_)); clear hK K)
      refine X7 1 ?_
      refine Qg (j + 1) (by omega) ⟨by omega, by show ((l.take (i + 1 + j + 1)).filter _).length < _; rw [hs]; omega⟩ ?_
      rw [show i + 1 + (j + 1) = i + 1 + j + 1 by omega, hs]
      exact QK rfl ⟨rfl, rfl, rfl, by simp only [Int.natCast_add, Int.add_assoc]; rfl, trivial⟩
  · have e : l.filter (fun x => !p x) = D := by rw [← hDD, List.take_of_length_le (by omega)]
    rw [e]
    refine St.nameS 0 0 l.length rfl rfl hcs (by omega) (by decide) (fun gb c hc1 hc2 => ?_)
    (refine Qh (Qq (Qw (Qx fun K hK => ?_))); refine Qz rfl rfl rfl ?_; refine Qz rfl rfl rfl ?_)
    refine Ops.cutKl D.length rfl rfl rfl rfl sRes (by omega) rfl ?_
    skip
    refine Ops.cutOff 0 D.length rfl hcs (by decide) (by omega) (by rw [rss_take, List.take_left]) ?_
    refine Ops.clearK 0 rfl rfl (by split <;> omega) rfl (Xw D) (by omega) sRes (by decide) ?_
    (refine Qv (hK _ _ (Qq (Qw ?_))); clear hK K; refine Qx (fun K hK => ?_); refine Qz rfl rfl rfl ?_; refine Qz rfl rfl rfl ?_)
    refine Ops.cutKh D.length rfl rfl rfl rfl sRes (by omega) rfl ?_
    (refine Qy rfl rfl rfl ?_; refine Qv (hK _ _ (Qq (Q0 ?_))); clear hK K)
    refine Fin.link 4 0 rfl rfl ?_
    refine Z1 rfl rfl rfl
theorem goKnown1 : InGo Tryz.prog 35 := InGo.of Tryz.func35 (by kernel_rfl) (by kernel_rfl)
theorem Known1_ok (t : Int) (r : Rs) : Ok Tryz.prog 35 ([rsC r] ++ [.fr (ptrT [intC t])]) (boolC (decide (t < r.bk))) := by
  refine Ok.enter Tryz.func35 rfl _ Tryz.ntmps35 rfl ?_
  intro S w
  (refine Qw (Qx fun K hK => ?_); refine Qf 0 rfl rfl rfl rfl rfl rfl rfl ?_; refine Qy rfl rfl rfl ?_; refine Qv (hK _ _ (Qq (Qw ?_))); clear hK K; refine Qx (fun K hK => ?_); refine Qu rfl rfl rfl (by with_reducible first | exact fS0 | exact fS1 | exact fS2 | exact fS3 | exact fS4 | exact fS5 | exact fS6 | exact fS7 | exact fS8 | exact fS9 | exact fS10 | exact fS11 | exact fN0 | exact fN1 | exact fN2 | exact fN3 | exact fN4 | exact fN5) rfl ?_; refine QQ rfl rfl rfl rfl rfl (by with_reducible first | exact lInt | exact QU | exact Qi | exact Xx) rfl ?_; refine Zv rfl rfl rfl (by with_reducible first | exact lInt | exact QY) rfl ?_; refine Qk igtr rfl rfl rfl rfl ?_; refine Qy rfl rfl rfl ?_; refine Qv (hK _ _ (Qq (Q0 ?_))); clear hK K)
  refine Q1 [_] rfl (QJ rfl QX) rfl rfl
theorem goVKnown : InGo Tryz.prog 11 := InGo.of Tryz.func11 (by kernel_rfl) (by kernel_rfl)
theorem VKnown_ok (l : List Rs) (t : Int) (hl : l.length ≤ 10000) : Ok Tryz.prog 11 [rssC l, intC t] (rssC ((sd cmpR (l.filter okR)).filter fun r => !decide (t < r.bk))) := by
  refine Ok.enter Tryz.func11 rfl _ Tryz.ntmps11 rfl ?_
  intro S w
  have hlen : (sd cmpR (l.filter okR)).length ≤ 100000 := by
    have h1 := sd_len cmpR (l.filter okR)
    have h2 := List.length_filter_le okR l
    omega
  (refine Qw (Qx fun K hK => ?_))
  refine Ops.box1 0 rfl rfl rfl rfl rfl rfl rfl ?_
  (refine Qy rfl rfl rfl ?_; refine Qv (hK _ _ (Qq (Qw ?_))); clear hK K; refine Qx (fun K hK => ?_); refine Qz rfl rfl rfl ?_)
  refine Xn 1 goOrder (Order_ok l hl) rfl rfl rfl rfl rfl rfl ?_
  generalize hm : sd cmpR (l.filter okR) = m at hlen
  refine Xl 0 _ rfl rfl X1 ?_
  refine Ops.makeFunc rfl rfl rfl ?_
  refine Yz goDeleteFunc_rs (DeleteFunc_rs m _ _ (fun r => decide (t < r.bk)) goKnown1 (Known1_ok t) hlen) rfl rfl rfl rfl rfl ?_
  (refine Qy rfl rfl rfl ?_; refine Qv (hK _ _ (Qq (Q0 ?_))); clear hK K)
  refine Fin.freeze 1 _ rfl (Zd _ _) X1 ?_
  refine Q1 [_] rfl (QJ rfl QX) (by rw [hm]; rfl) rfl
end Go.Proofs.YtcelmhkpcdhneaaGreat
