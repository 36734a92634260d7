/- What the law on the case of letters stands on. -/
import Derived.Test.YtfpojgcnfclphaaDoorField10
import Derived.Test.YtfpojgcnfclphaaDoorFieldLaw5
